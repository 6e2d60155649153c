/-
The plain Lean functions of Go functions of this seat, and proofs that the calls of the machine come to them; no condition beside those named in each theorem.
-/
import Derived.Test.YtcppmfmlafnmfaaPx0
import Derived.Test.YtcppmfmlafnmfaaPx2
import Derived.Test.YtcppmfmlafnmfaaStubA
namespace Go.Proofs.Ytcppmfmlafnmfaa.P
open Go.RowKit Go.Proofs.YtcppmfmlafnmfaaW.PrintWords Go.Proofs.YtcppmfmlafnmfaaW.PrintLast Go.Proofs.YtcppmfmlafnmfaaW.PrintMore
attribute [local go_sem] max2_int min2_int max_two min_two max_three min_three max_four min_four   -- for this text's walks alone
set_option linter.unusedVariables false
set_option linter.unusedSimpArgs false

/-! ### warplaw4_Ops: function 22 -/
def warplaw4_Ops.l0 : Nat → List Int → Int → List (S28) → Int → Option ((List (S28)))
 | 0, _, _, _, _ => none
 | k + 1, x0, x1, x5, x6 => if (wrap64 (x6 + 2)) < (x0.length : Int) then (if x1 > 0 then (if 0 ≤ x6 then (if x6 < (x0.length : Int) then (if 0 ≤ (wrap64 (x6 + 1)) then (if (wrap64 (x6 + 1)) < (x0.length : Int) then (if 0 ≤ (wrap64 (x6 + 2)) then ((warplaw4_op.f (rd x0 x6) (rd x0 (wrap64 (x6 + 1))) (rd x0 (wrap64 (x6 + 2))) x1).bind fun bt117 => (if x5.length < 5864062014805 then (warplaw4_Ops.l0 k x0 x1 (x5 ++ [(⟨bt117.1, bt117.2.1, bt117.2.2⟩ : S28)]) (wrap64 (x6 + 3))) else (none))) else (none)) else (none)) else (none)) else (none)) else (none)) else (some x5)) else (some x5)
def warplaw4_Ops.f (k : Nat) (l0 : List Int) (a1 : Int) : Option ((List (S28))) := warplaw4_Ops.l0 k l0 a1 ([] : List (S28)) 0
theorem warplaw4_Ops.mono_l : ∀ k, (∀ y0 y1 y2 y3, LeO (warplaw4_Ops.l0 k y0 y1 y2 y3) (warplaw4_Ops.l0 (k + 1) y0 y1 y2 y3))
 | 0 => fun _ _ _ _ r h => by simp [warplaw4_Ops.l0] at h
 | k + 1 => by
  have ih0 := warplaw4_Ops.mono_l k
  ·
   intro y0 y1 y2 y3
   unfold warplaw4_Ops.l0
   repeat' first
   | (with_reducible exact ih0 _ _ _ _)
   | (with_reducible exact LeO.refl _)
   | (with_reducible exact LeO.none _)
   | (with_reducible refine LeO.ite ?_ ?_)
   | (with_reducible refine LeO.bind ?_ (fun _ => ?_))
   | exact ih0 _ _ _ _
   | exact LeO.none _
   | refine LeO.ite ?_ ?_
   | refine LeO.bind ?_ (fun _ => ?_)
theorem warplaw4_Ops.mono : ∀ a0 a1 k, LeO (warplaw4_Ops.f k a0 a1) (warplaw4_Ops.f (k + 1) a0 a1) := by
 intro a0 a1 k
 have ih0 := warplaw4_Ops.mono_l k
 unfold warplaw4_Ops.f
 repeat' first
  | (with_reducible exact ih0 _ _ _ _)
  | (with_reducible exact LeO.refl _)
  | (with_reducible exact LeO.none _)
  | (with_reducible refine LeO.ite ?_ ?_)
  | (with_reducible refine LeO.bind ?_ (fun _ => ?_))
  | exact ih0 _ _ _ _
  | exact LeO.none _
  | refine LeO.ite ?_ ?_
  | refine LeO.bind ?_ (fun _ => ?_)
def warplaw4_Ops.T5 : Bool × List (List Nat × List Nat) := (true, [([], []), ([], []), ([], []), ([1, 2], [1, 2]), ([3], [3]), ([], []), ([], []), ([6], [6]), ([5, 7], [5, 7]), ([8], [8]), ([], []), ([], []), ([11], [11]), ([10, 12], [10, 12]), ([13], [13]), ([], []), ([4, 9, 14, 15], [4, 9, 14, 15]), ([16], [16]), ([0, 17, 16], [0, 17]), ([18, 18, 0, 1, 2, 3, 4, 5, 6, 7, 8, 9, 10, 11, 12, 13, 14, 15, 16, 17, 18], [0, 18])])
def warplaw4_Ops.B5 : List Nat := [0, 0, 0, 6, 14, 0, 0, 64, 224, 480, 0, 0, 2048, 7168, 15360, 0, 65534, 131070, 262143, 524287]
theorem warplaw4_Ops.tab5 : rtab .any (opsOf Try.f22 5) = warplaw4_Ops.T5 := by kernel_rfl
theorem warplaw4_Ops.bits5 : waitsOk warplaw4_Ops.T5.2 warplaw4_Ops.B5 = true := by kernel_rfl
set_option maxHeartbeats 8000000 in
set_option maxRecDepth 100000 in
theorem warplaw4_Ops.calls (k : Nat) (A0 : Option Addr) (c0 : Nat) (l0 : List Int) (a1 : Int) (r : List (S28)) (w : World) (hr0 : Kd.C (Kd.int .u8) w A0 l0.length l0) (hc0 : l0.length ≤ c0) (h : warplaw4_Ops.f k l0 a1 = some r) :
 Calls Try.prog 22 #[.slice A0 l0.length c0, .int .i64 a1] w fun e w' => ∃ v0_ : Value, e = .returned (v0_) ∧ Kd.R k28 28 w' w.heap.size (fun _ => True) v0_ r ∧ Below w.heap.size w w' := by
 have HR0 := Aside0.mk hr0
 have HC0 := Aside0.mk hc0
 clear hr0 hc0
 have HB := Aside0.mk (Below.refl w.heap.size w)
 have H : (warplaw4_Ops.l0 k l0 a1 ([] : List (S28)) 0) = some r := h
 clear h
 have H' := Aside0.mk H
 clear H
 go_enter Try.func22, Try.ntmps22
 go_wp2
 go_loopg [5, 6] k (fun kq v5 v6 w' => ∃ (x5_1 : List (S28)) (x6_1 : Int), v6 = .int .i64 x6_1 ∧ Aside0 (warplaw4_Ops.l0 kq l0 a1 x5_1 x6_1 = some r) ∧ Aside0 (kq ≤ k) ∧ Aside0 (Kd.R k28 28 w' w.heap.size (fun _ => True) v5 x5_1) ∧ Aside0 (Below w.heap.size w w'))
 case atStart => exact ⟨(([] : List (S28))), (0), (by first | rfl | (simp; done) | (simp [*]; done)), H', ⟨Nat.le_refl _⟩, ⟨by first | exact Kd.R_nil _ _ _ _ _ | exact Kd.N_nil _ _ _ _ _ | exact Kd.V_nil _ _ _ _ _ | exact Kd.Q_nil _ _ _ _ _ | exact Kd.S_nil _ _ _ _ _⟩, ⟨by repeat (first | (with_reducible first | exact HB.out | apply below_alloc | apply pw_below_drewN | apply below_drew1) | exact HB.out)⟩⟩
 case round =>
  clear H'
  (try clear c2); (try clear p2)
  obtain ⟨x5_1, x6_1, rfl, HA, HK1, HO_5, HB⟩ := hrel
  cases gk with
  | zero => exact absurd HA.out (by simp [warplaw4_Ops.l0])
  | succ k1 =>
   have H := HA.out
   clear HA
   simp only [warplaw4_Ops.l0] at H
   by_cases c3 : (wrap64 (x6_1 + 2)) < (l0.length : Int)
   ·
    rw [if_pos c3] at H
    have c3b0 : decide ((wrap64 (x6_1 + 2)) < (l0.length : Int)) = true := decide_eq_true c3
    clear c3
    by_cases c4 : a1 > 0
    ·
     rw [if_pos c4] at H
     have c4b0 : decide (0 < a1) = true := decide_eq_true c4
     clear c4
     by_cases c5 : 0 ≤ x6_1
     ·
      rw [if_pos c5] at H
      have c5b0 : decide (0 ≤ x6_1) = true := decide_eq_true c5
      clear c5
      by_cases c6 : x6_1 < (l0.length : Int)
      ·
       rw [if_pos c6] at H
       have c6b0 : decide (x6_1 < (l0.length : Int)) = true := decide_eq_true c6
       clear c6
       obtain ⟨ji7, hji7⟩ : ∃ j_ : Int, (wrap64 (x6_1 + 1)) = j_ := ⟨_, rfl⟩
       replace H : (if 0 ≤ (ji7) then (if (ji7) < (l0.length : Int) then (if 0 ≤ (wrap64 (x6_1 + 2)) then ((warplaw4_op.f (rd l0 x6_1) (rd l0 (ji7)) (rd l0 (wrap64 (x6_1 + 2))) a1).bind fun bt117 => (if x5_1.length < 5864062014805 then (warplaw4_Ops.l0 k1 l0 a1 (x5_1 ++ [(⟨bt117.1, bt117.2.1, bt117.2.2⟩ : S28)]) (wrap64 (x6_1 + 3))) else (none))) else (none)) else (none)) else (none)) = some r := by first | (rw [hji7] at H; exact H) | (simp only [hji7] at H ⊢; exact H)
       have hji7w : (IntKind.i64.wrap (x6_1 + 1)) = ji7 := (i64_w _).trans hji7
       by_cases c8 : 0 ≤ (ji7)
       ·
        rw [if_pos c8] at H
        have c8b0 : decide (0 ≤ (ji7)) = true := decide_eq_true c8
        clear c8
        by_cases c9 : (ji7) < (l0.length : Int)
        ·
         rw [if_pos c9] at H
         have c9b0 : decide ((ji7) < (l0.length : Int)) = true := decide_eq_true c9
         clear c9
         obtain ⟨ji10, hji10⟩ : ∃ j_ : Int, (wrap64 (x6_1 + 2)) = j_ := ⟨_, rfl⟩
         replace H : (if 0 ≤ (ji10) then ((warplaw4_op.f (rd l0 x6_1) (rd l0 (ji7)) (rd l0 (ji10)) a1).bind fun bt117 => (if x5_1.length < 5864062014805 then (warplaw4_Ops.l0 k1 l0 a1 (x5_1 ++ [(⟨bt117.1, bt117.2.1, bt117.2.2⟩ : S28)]) (wrap64 (x6_1 + 3))) else (none))) else (none)) = some r := by first | (rw [hji10] at H; exact H) | (simp only [hji10] at H ⊢; exact H)
         (try rw [hji10] at c3b0)
         have hji10w : (IntKind.i64.wrap (x6_1 + 2)) = ji10 := (i64_w _).trans hji10
         by_cases c11 : 0 ≤ (ji10)
         ·
          rw [if_pos c11] at H
          have c11b0 : decide (0 ≤ (ji10)) = true := decide_eq_true c11
          clear c11
          replace H := Option.bind_eq_some_iff.mp H
          obtain ⟨⟨t117, t118, t119⟩, A120, H⟩ := H
          replace H : (if x5_1.length < 5864062014805 then (warplaw4_Ops.l0 k1 l0 a1 (x5_1 ++ [(⟨t117, t118, t119⟩ : S28)]) (wrap64 (x6_1 + 3))) else (none)) = some r := H
          have A12 := Aside0.mk A120
          clear A120
          by_cases c13 : x5_1.length < 5864062014805
          ·
           rw [if_pos c13] at H
           have LMc13 := Aside0.mk c13
           clear c13
           obtain ⟨y120, hy120⟩ : ∃ y_ : List (S28), y_ = (x5_1 ++ [(⟨t117, t118, t119⟩ : S28)]) := ⟨_, rfl⟩
           replace H : (warplaw4_Ops.l0 k1 l0 a1 y120 (wrap64 (x6_1 + 3))) = some r := by first | (rw [hy120]; with_reducible exact H) | (have H2_ := (Option.bind_some _ _).symm.trans H; rw [hy120]; with_reducible exact H2_) | (have H2_ := (Option.bind_some _ _).symm.trans H; with_reducible exact H2_) | with_reducible exact H | (rw [hy120]; exact H) | exact H
           have Ny120 := Aside0.mk hy120
           clear hy120
           have H' := Aside0.mk H
           clear H
           try go_wp2
           have n0_ := Aside0.mk (Kd.R_drew HO_5.out)
           have n1_ := Aside0.mk (below_drew1 HB.out)
           clear HO_5
           clear HB
           have HO_5 := n0_
           have HB := n1_
           clear n0_ n1_
           have p114 : 0 ≤ (x6_1 : Int) := of_decide_eq_true (by first | (with_reducible assumption) | assumption)
           have q114 : x6_1 < (l0.length : Int) := of_decide_eq_true (by first | (with_reducible assumption) | assumption)
           obtain ⟨ad114, e114, hx114_0⟩ := Kd.at_int HR0.out x6_1 p114 q114
           have hw114_0 := hx114_0
           cases e114
           replace hx114_0 := (HB.out.cell (World.block_lt_of_cell? w _ hx114_0)).trans hx114_0
           replace p114 := eq_true p114
           replace q114 := eq_true q114
           have p115 : 0 ≤ ((ji7) : Int) := of_decide_eq_true (by first | (with_reducible assumption) | assumption)
           have q115 : (ji7) < (l0.length : Int) := of_decide_eq_true (by first | (with_reducible assumption) | assumption)
           obtain ⟨ad115, e115, hx115_0⟩ := Kd.at_int HR0.out (ji7) p115 q115
           have hw115_0 := hx115_0
           obtain rfl : ad114 = ad115 := (by injection e115)
           replace hx115_0 := (HB.out.cell (World.block_lt_of_cell? w _ hx115_0)).trans hx115_0
           replace p115 := eq_true p115
           replace q115 := eq_true q115
           have p116 : 0 ≤ ((ji10) : Int) := of_decide_eq_true (by first | (with_reducible assumption) | assumption)
           have q116 : (ji10) < (l0.length : Int) := of_decide_eq_true (by first | (with_reducible assumption) | assumption)
           obtain ⟨ad116, e116, hx116_0⟩ := Kd.at_int HR0.out (ji10) p116 q116
           have hw116_0 := hx116_0
           obtain rfl : ad114 = ad116 := (by injection e116)
           replace hx116_0 := (HB.out.cell (World.block_lt_of_cell? w _ hx116_0)).trans hx116_0
           replace p116 := eq_true p116
           replace q116 := eq_true q116
           refine start_ (n := 20) (S := fun w' => w'.cell? (ad114.add (x6_1).toNat) = some (.int .u8 (rd l0 x6_1)) ∧ w'.cell? (ad114.add ((ji7)).toNat) = some (.int .u8 (rd l0 (ji7))) ∧ w'.cell? (ad114.add ((ji10)).toNat) = some (.int .u8 (rd l0 (ji10)))) (ds := []) #[false, false, false, false, false, false, false, false, false, false, false, false, false, false, false, false, false, false, false, false] (by kernel_rfl) rfl rfl ⟨((HB.out.cell (World.block_lt_of_cell? w _ hw114_0)).trans hw114_0), ((HB.out.cell (World.block_lt_of_cell? w _ hw115_0)).trans hw115_0), ((HB.out.cell (World.block_lt_of_cell? w _ hw116_0)).trans hw116_0)⟩ (fun hHeld => ?_); refine with_tabW warplaw4_Ops.tab5 warplaw4_Ops.bits5 (fun HT_ HW_ => ?_)
           generalize wr.drew = w14 at HO_5 HB hx114_0 hx115_0 hx116_0 hHeld ⊢
           refine pure_ (i := 0) (N := some 18) (v := ?_) (a' := ?_) #[true, false, false, false, false, false, false, false, false, false, false, false, false, false, false, false, false, false, false, false] rfl rfl (any_of HT_.out (by kernel_rfl)) (fun _ _ _ h => h) (Or.inl ⟨by rfl, ?_⟩) ?_ ?_
           rotate_left
           ·
            intro w'
            go_simp
            with_reducible rfl
           rotate_left
           ·
            simp only [Act.put, List.setIfInBounds_toArray, List.set_cons_zero, List.set_cons_succ, i64_w, i32_w]
            rfl
           refine pure_ (i := 1) (N := some 19) (v := ?_) (a' := ?_) #[true, true, false, false, false, false, false, false, false, false, false, false, false, false, false, false, false, false, false, false] rfl rfl (any_of HT_.out (by kernel_rfl)) (fun _ _ _ h => h) (Or.inl ⟨by rfl, ?_⟩) ?_ ?_
           rotate_left
           ·
            intro w'
            go_simp
            with_reducible rfl
           rotate_left
           ·
            simp only [Act.put, List.setIfInBounds_toArray, List.set_cons_zero, List.set_cons_succ, i64_w, i32_w]
            rfl
           refine pure_ (i := 2) (N := some 20) (v := ?_) (a' := ?_) #[true, true, true, false, false, false, false, false, false, false, false, false, false, false, false, false, false, false, false, false] rfl rfl (any_of HT_.out (by kernel_rfl)) (fun _ _ _ h => h) (Or.inl ⟨by rfl, ?_⟩) ?_ ?_
           rotate_left
           ·
            intro w'
            go_simp
            with_reducible rfl
           rotate_left
           ·
            simp only [Act.put, List.setIfInBounds_toArray, List.set_cons_zero, List.set_cons_succ, i64_w, i32_w]
            rfl
           refine pure_ (i := 3) (N := some 21) (v := ?_) (a' := ?_) #[true, true, true, true, false, false, false, false, false, false, false, false, false, false, false, false, false, false, false, false] rfl rfl (any_of HT_.out (by kernel_rfl)) (fun _ _ _ h => h) (Or.inl ⟨by rfl, ?_⟩) ?_ ?_
           rotate_left
           ·
            intro w'
            go_simp
            with_reducible rfl
           rotate_left
           ·
            simp only [Act.put, List.setIfInBounds_toArray, List.set_cons_zero, List.set_cons_succ, i64_w, i32_w]
            rfl
           refine pure_ (i := 5) (N := some 23) (v := ?_) (a' := ?_) #[true, true, true, true, false, true, false, false, false, false, false, false, false, false, false, false, false, false, false, false] rfl rfl (any_of HT_.out (by kernel_rfl)) (fun _ _ _ h => h) (Or.inl ⟨by rfl, ?_⟩) ?_ ?_
           rotate_left
           ·
            intro w'
            go_simp
            with_reducible rfl
           rotate_left
           ·
            simp only [Act.put, List.setIfInBounds_toArray, List.set_cons_zero, List.set_cons_succ, i64_w, i32_w]
            rfl
           refine pure_ (i := 6) (N := some 24) (v := ?_) (a' := ?_) #[true, true, true, true, false, true, true, false, false, false, false, false, false, false, false, false, false, false, false, false] rfl rfl (any_of HT_.out (by kernel_rfl)) (fun _ _ _ h => h) (Or.inl ⟨by rfl, ?_⟩) ?_ ?_
           rotate_left
           ·
            intro w'
            go_simp
            with_reducible rfl
           rotate_left
           ·
            simp only [Act.put, List.setIfInBounds_toArray, List.set_cons_zero, List.set_cons_succ, i64_w, i32_w]
            rfl
           refine pure_ (i := 7) (N := some 25) (v := ?_) (a' := ?_) #[true, true, true, true, false, true, true, true, false, false, false, false, false, false, false, false, false, false, false, false] rfl rfl (any_of HT_.out (by kernel_rfl)) (fun _ _ _ h => h) (Or.inl ⟨by rfl, ?_⟩) ?_ ?_
           rotate_left
           ·
            intro w'
            go_simp
            with_reducible rfl
           rotate_left
           ·
            simp only [Act.put, List.setIfInBounds_toArray, List.set_cons_zero, List.set_cons_succ, i64_w, i32_w]
            rfl
           refine pure_ (i := 8) (N := some 26) (v := ?_) (a' := ?_) #[true, true, true, true, false, true, true, true, true, false, false, false, false, false, false, false, false, false, false, false] rfl rfl (any_of HT_.out (by kernel_rfl)) (fun _ _ _ h => h) (Or.inl ⟨by rfl, ?_⟩) ?_ ?_
           rotate_left
           ·
            intro w'
            go_simp
            with_reducible rfl
           rotate_left
           ·
            simp only [Act.put, List.setIfInBounds_toArray, List.set_cons_zero, List.set_cons_succ, i64_w, i32_w]
            rfl
           refine pure_ (i := 10) (N := some 28) (v := ?_) (a' := ?_) #[true, true, true, true, false, true, true, true, true, false, true, false, false, false, false, false, false, false, false, false] rfl rfl (any_of HT_.out (by kernel_rfl)) (fun _ _ _ h => h) (Or.inl ⟨by rfl, ?_⟩) ?_ ?_
           rotate_left
           ·
            intro w'
            go_simp
            with_reducible rfl
           rotate_left
           ·
            simp only [Act.put, List.setIfInBounds_toArray, List.set_cons_zero, List.set_cons_succ, i64_w, i32_w]
            rfl
           refine pure_ (i := 11) (N := some 29) (v := ?_) (a' := ?_) #[true, true, true, true, false, true, true, true, true, false, true, true, false, false, false, false, false, false, false, false] rfl rfl (any_of HT_.out (by kernel_rfl)) (fun _ _ _ h => h) (Or.inl ⟨by rfl, ?_⟩) ?_ ?_
           rotate_left
           ·
            intro w'
            go_simp
            with_reducible rfl
           rotate_left
           ·
            simp only [Act.put, List.setIfInBounds_toArray, List.set_cons_zero, List.set_cons_succ, i64_w, i32_w]
            rfl
           refine pure_ (i := 12) (N := some 30) (v := ?_) (a' := ?_) #[true, true, true, true, false, true, true, true, true, false, true, true, true, false, false, false, false, false, false, false] rfl rfl (any_of HT_.out (by kernel_rfl)) (fun _ _ _ h => h) (Or.inl ⟨by rfl, ?_⟩) ?_ ?_
           rotate_left
           ·
            intro w'
            go_simp
            with_reducible rfl
           rotate_left
           ·
            simp only [Act.put, List.setIfInBounds_toArray, List.set_cons_zero, List.set_cons_succ, i64_w, i32_w]
            rfl
           refine pure_ (i := 13) (N := some 31) (v := ?_) (a' := ?_) #[true, true, true, true, false, true, true, true, true, false, true, true, true, true, false, false, false, false, false, false] rfl rfl (any_of HT_.out (by kernel_rfl)) (fun _ _ _ h => h) (Or.inl ⟨by rfl, ?_⟩) ?_ ?_
           rotate_left
           ·
            intro w'
            go_simp
            with_reducible rfl
           rotate_left
           ·
            simp only [Act.put, List.setIfInBounds_toArray, List.set_cons_zero, List.set_cons_succ, i64_w, i32_w]
            rfl
           refine pure_ (i := 15) (N := some 33) (v := ?_) (a' := ?_) #[true, true, true, true, false, true, true, true, true, false, true, true, true, true, false, true, false, false, false, false] rfl rfl (any_of HT_.out (by kernel_rfl)) (fun _ _ _ h => h) (Or.inl ⟨by rfl, ?_⟩) ?_ ?_
           rotate_left
           ·
            intro w'
            go_simp
            with_reducible rfl
           rotate_left
           ·
            simp only [Act.put, List.setIfInBounds_toArray, List.set_cons_zero, List.set_cons_succ, i64_w, i32_w]
            rfl
           refine take_ (i := 4) (N := some 22) (v := ?_) (a' := ?_) #[true, true, true, true, true, true, true, true, true, false, true, true, true, true, false, true, false, false, false, false] rfl rfl (take_ofW HT_.out HW_.out (by kernel_rfl)) (fun _ _ _ h => h) (Or.inl ⟨by rfl, ?_⟩) hHeld ?_ ?_
           rotate_left
           ·
            rintro w' ⟨s0, s1, s2⟩
            go_simp
            with_reducible rfl
           rotate_left
           ·
            simp only [Act.put, List.setIfInBounds_toArray, List.set_cons_zero, List.set_cons_succ, i64_w, i32_w]
            rfl
           refine take_ (i := 9) (N := some 27) (v := ?_) (a' := ?_) #[true, true, true, true, true, true, true, true, true, true, true, true, true, true, false, true, false, false, false, false] rfl rfl (take_ofW HT_.out HW_.out (by kernel_rfl)) (fun _ _ _ h => h) (Or.inl ⟨by rfl, ?_⟩) hHeld ?_ ?_
           rotate_left
           ·
            rintro w' ⟨s0, s1, s2⟩
            go_simp
            with_reducible rfl
           rotate_left
           ·
            simp only [Act.put, List.setIfInBounds_toArray, List.set_cons_zero, List.set_cons_succ, i64_w, i32_w]
            rfl
           refine take_ (i := 14) (N := some 32) (v := ?_) (a' := ?_) #[true, true, true, true, true, true, true, true, true, true, true, true, true, true, true, true, false, false, false, false] rfl rfl (take_ofW HT_.out HW_.out (by kernel_rfl)) (fun _ _ _ h => h) (Or.inl ⟨by rfl, ?_⟩) hHeld ?_ ?_
           rotate_left
           ·
            rintro w' ⟨s0, s1, s2⟩
            go_simp
            with_reducible rfl
           rotate_left
           ·
            simp only [Act.put, List.setIfInBounds_toArray, List.set_cons_zero, List.set_cons_succ, i64_w, i32_w]
            rfl
           refine one_ (i := 16) (N := some 34) #[true, true, true, true, true, true, true, true, true, true, true, true, true, true, true, true, true, false, false, false] rfl rfl (one_of HT_.out (by kernel_rfl)) (by decide) (fun K hK => ?_)
           refine goes_ Try.func11 (by kernel_rfl) rfl #[.int .u8 (rd l0 x6_1), .int .u8 (rd l0 (ji7)), .int .u8 (rd l0 (ji10)), .int .i64 a1] (by rfl) rfl rfl (by (try simp only [List.map_toArray, List.map_cons, List.map_nil]); first | done | (simp only [hji10, hji7]; rfl) | rfl | (simp only [List.length_drop, List.length_take]; rfl)) ?_
           with_reducible refine (warplaw4_op.calls (rd l0 x6_1) (rd l0 (ji7)) (rd l0 (ji10)) a1 t117 t118 t119 _ A12.out).mono ?_
           rintro e w15 ⟨rfl, hb⟩
           refine ⟨_, rfl, ?_⟩
           have n0_ := Aside0.mk (Kd.R_below (by (with_reducible repeat (first | apply Kd.R_alloc | apply Kd.R_drewN | apply Kd.R_drew)); exact HO_5.out) hb)
           have n1_ := Aside0.mk (below_step (by repeat (first | (with_reducible first | exact HB.out | apply below_alloc | apply pw_below_drewN | apply below_drew1) | exact HB.out)) hb)
           clear HO_5
           clear HB
           have HO_5 := n0_
           have HB := n1_
           clear n0_ n1_
           (try clear hb)
           (try clear hb2)
           (try clear hk)
           (try clear hi)
           refine hK.out _ _ ⟨((HB.out.cell (World.block_lt_of_cell? w _ hw114_0)).trans hw114_0), ((HB.out.cell (World.block_lt_of_cell? w _ hw115_0)).trans hw115_0), ((HB.out.cell (World.block_lt_of_cell? w _ hw116_0)).trans hw116_0)⟩ (fun hHeld => ?_)
           clear hK K
           refine norm_ (a' := ?_) ?_ ?_
           rotate_left
           ·
            show Act.put _ (some 34) _ = _
            simp only [Act.put, List.setIfInBounds_toArray, List.set_cons_zero, List.set_cons_succ, i64_w, i32_w]
            rfl
           refine one_ (i := 17) (N := some 35) #[true, true, true, true, true, true, true, true, true, true, true, true, true, true, true, true, true, true, false, false] rfl rfl (one_of HT_.out (by kernel_rfl)) (by decide) (fun K hK => ?_)
           refine value_ (w1 := ?_) (v := ?_) (by rfl) rfl ?_ ?_
           rotate_left 2
           ·
            go_simp
            constructor
            ·
             rfl
            ·
             rfl
           refine hK.out _ _ ⟨(World.cell?_alloc_lt _ _ _ (World.block_lt_of_cell? _ _ (((HB.out.cell (World.block_lt_of_cell? w _ hw114_0)).trans hw114_0)))).trans (((HB.out.cell (World.block_lt_of_cell? w _ hw114_0)).trans hw114_0)), (World.cell?_alloc_lt _ _ _ (World.block_lt_of_cell? _ _ (((HB.out.cell (World.block_lt_of_cell? w _ hw115_0)).trans hw115_0)))).trans (((HB.out.cell (World.block_lt_of_cell? w _ hw115_0)).trans hw115_0)), (World.cell?_alloc_lt _ _ _ (World.block_lt_of_cell? _ _ (((HB.out.cell (World.block_lt_of_cell? w _ hw116_0)).trans hw116_0)))).trans (((HB.out.cell (World.block_lt_of_cell? w _ hw116_0)).trans hw116_0))⟩ (fun hHeld => ?_)
           clear hK K
           refine norm_ (a' := ?_) ?_ ?_
           rotate_left
           ·
            show Act.put _ (some 35) _ = _
            simp only [Act.put, List.setIfInBounds_toArray, List.set_cons_zero, List.set_cons_succ, i64_w, i32_w]
            rfl
           refine one_ (i := 18) (N := some 36) #[true, true, true, true, true, true, true, true, true, true, true, true, true, true, true, true, true, true, true, false] rfl rfl (one_of HT_.out (by kernel_rfl)) (by decide) (fun K hK => ?_)
           refine Kd.R_append_step k28 (w0 := w) w.heap.size (by rfl) (.tmp 18) (.tmp 35) 51 28 (.agg #[(.int .i64 0), (.int .i64 0), (.int .i64 0)]) 24 rfl Try.underlying51 info28 rfl (by decide) (by omega) u5 x5_1 (⟨t117, t118, t119⟩ : S28) [.int .i64 t117, .int .i64 t118, .int .i64 t119] (fun _ => True) (fun _ => False) rfl rfl ?aP (fun _ hk => hk.elim) ?aF ?aO ?aB ?aS ?aL ?_
           (case aP => exact k28_mkM _ _ _ (⟨t117, t118, t119⟩ : S28))
           (case aB => exact (by repeat (first | (with_reducible first | exact HB.out | apply below_alloc | apply pw_below_drewN | apply below_drew1) | exact HB.out)))
           (case aF => exact (fun _ _ => trivial))
           (case aO => exact (by (with_reducible repeat (first | apply Kd.R_alloc | apply Kd.R_drewN | apply Kd.R_drew)); exact HO_5.out))
           (case aS => exact (below_size (by repeat (first | (with_reducible first | exact HB.out | apply below_alloc | apply pw_below_drewN | apply below_drew1) | exact HB.out))))
           (case aL => have := LMc13.out; omega)
           intro v121 w16 ho hb hg hat
           rw [← Ny120.out] at ho
           have n0_ := Aside0.mk (hb)
           have n1_ := Aside0.mk (ho)
           clear HB
           clear HO_5
           have HB := n0_
           have HO122 := n1_
           clear n0_ n1_
           clear ho hb hg hat
           refine hK.out _ _ ⟨((HB.out.cell (World.block_lt_of_cell? w _ hw114_0)).trans hw114_0), ((HB.out.cell (World.block_lt_of_cell? w _ hw115_0)).trans hw115_0), ((HB.out.cell (World.block_lt_of_cell? w _ hw116_0)).trans hw116_0)⟩ (fun hHeld => ?_)
           clear hK K
           refine norm_ (a' := ?_) ?_ ?_
           rotate_left
           ·
            show Act.put _ (some 36) _ = _
            simp only [Act.put, List.setIfInBounds_toArray, List.set_cons_zero, List.set_cons_succ, i64_w, i32_w]
            rfl
           refine pure_ (i := 19) (N := some 5) (v := ?_) (a' := ?_) #[true, true, true, true, true, true, true, true, true, true, true, true, true, true, true, true, true, true, true, true] rfl rfl (any_of HT_.out (by kernel_rfl)) (fun _ _ _ h => h) (Or.inl ⟨by rfl, ?_⟩) ?_ ?_
           rotate_left
           ·
            intro w'
            go_simp
            with_reducible rfl
           rotate_left
           ·
            simp only [Act.put, List.setIfInBounds_toArray, List.set_cons_zero, List.set_cons_succ, i64_w, i32_w]
            rfl
           refine done_ (done_of HT_.out (by kernel_rfl)) ?_
           try go_wp2
           go_roundg k1
           case measure => have := HK1.out; omega
           case rel => exact ⟨(y120), (wrap64 (x6_1 + 3)), (by first | rfl | (simp; done) | (simp [*]; done)), H', ⟨by have := HK1.out; omega⟩, ⟨by (with_reducible repeat (first | apply Kd.R_alloc | apply Kd.R_drewN | apply Kd.R_drew)); exact HO122.out⟩, ⟨by repeat (first | (with_reducible first | exact HB.out | apply below_alloc | apply pw_below_drewN | apply below_drew1) | exact HB.out)⟩⟩
          ·
           rw [if_neg c13] at H
           exact absurd H (by simp)
         ·
          rw [if_neg c11] at H
          exact absurd H (by simp)
        ·
         rw [if_neg c9] at H
         exact absurd H (by simp)
       ·
        rw [if_neg c8] at H
        exact absurd H (by simp)
      ·
       rw [if_neg c6] at H
       exact absurd H (by simp)
     ·
      rw [if_neg c5] at H
      exact absurd H (by simp)
    ·
     rw [if_neg c4] at H
     have c4b0 : decide (0 < a1) = false := decide_eq_false c4
     clear c4
     obtain rfl := Option.some.inj H
     go_wp2
     go_ret
     exact ⟨_, by first | rfl | (simp [errW_none, errW_some] <;> rfl) | (simp [*, errW_none, errW_some] <;> rfl), by (with_reducible repeat (first | apply Kd.R_alloc | apply Kd.R_drewN | apply Kd.R_drew)); exact HO_5.out, by repeat (first | (with_reducible first | exact HB.out | apply below_alloc | apply pw_below_drewN | apply below_drew1) | exact HB.out)⟩
   ·
    rw [if_neg c3] at H
    have c3b0 : decide ((wrap64 (x6_1 + 2)) < (l0.length : Int)) = false := decide_eq_false c3
    clear c3
    obtain rfl := Option.some.inj H
    go_wp2
    go_ret
    exact ⟨_, by first | rfl | (simp [errW_none, errW_some] <;> rfl) | (simp [*, errW_none, errW_some] <;> rfl), by (with_reducible repeat (first | apply Kd.R_alloc | apply Kd.R_drewN | apply Kd.R_drew)); exact HO_5.out, by repeat (first | (with_reducible first | exact HB.out | apply below_alloc | apply pw_below_drewN | apply below_drew1) | exact HB.out)⟩

/-! ### warplaw4_Cells: function 10 -/
mutual
def warplaw4_Cells.l0 : Nat → List Int → List Int → List (S28) → Int → Option (List Int)
 | 0, _, _, _, _ => none
 | k + 1, x1, x5, x6, x7 => if x7 < (x6.length : Int) then (if 0 ≤ x7 then ((warpref1_Begin.f ((rd_T28 x6 x7).f0) ((rd_T28 x6 x7).f1) ((rd_T28 x6 x7).f2) (x1.length : Int)).bind fun bt130 => (warplaw4_Cells.l1 k x1 x5 x6 x7 0 bt130.1 bt130.2.1 bt130.2.2.1 bt130.2.2.2.1 bt130.2.2.2.2.1 bt130.2.2.2.2.2.1 bt130.2.2.2.2.2.2.1 bt130.2.2.2.2.2.2.2.1 bt130.2.2.2.2.2.2.2.2.1 bt130.2.2.2.2.2.2.2.2.2.1)) else (none)) else (some x5)
def warplaw4_Cells.l1 : Nat → List Int → List Int → List (S28) → Int → Int → Int → Int → Int → Int → Int → Int → Int → Int → Bool → Int → Option (List Int)
 | 0, _, _, _, _, _, _, _, _, _, _, _, _, _, _, _ => none
 | k + 1, x1, x5, x6, x7, x9, x142000, x142001, x142002, x142003, x142004, x142005, x142006, x142007, x142008, x142009 => if x9 < 1000 then (if x142008 = true then (warplaw4_Cells.l0 k x1 x5 x6 (wrap64 (x7 + 1))) else ((warpref1_Step.f x5 x1 x142000 x142001 x142002 x142003 x142004 x142005 x142006 x142007 x142008 x142009).bind fun bt142 => (warplaw4_Cells.l1 k x1 bt142.1 x6 x7 (wrap64 (x9 + 1)) bt142.2.1 bt142.2.2.1 bt142.2.2.2.1 bt142.2.2.2.2.1 bt142.2.2.2.2.2.1 bt142.2.2.2.2.2.2.1 bt142.2.2.2.2.2.2.2.1 bt142.2.2.2.2.2.2.2.2.1 bt142.2.2.2.2.2.2.2.2.2.1 bt142.2.2.2.2.2.2.2.2.2.2))) else (warplaw4_Cells.l0 k x1 x5 x6 (wrap64 (x7 + 1)))
end
def warplaw4_Cells.f (k : Nat) (l0 : List Int) (l1 : List Int) : Option (List Int) := (warpref1_NewPart.f k (l1.length : Int)).bind fun t123 => ((warplaw4_Ops.f k l0 (l1.length : Int)).bind fun t126 => (warplaw4_Cells.l0 k l1 t123 t126 0))
theorem warplaw4_Cells.mono_l : ∀ k, (∀ y0 y1 y2 y3, LeO (warplaw4_Cells.l0 k y0 y1 y2 y3) (warplaw4_Cells.l0 (k + 1) y0 y1 y2 y3)) ∧ (∀ y0 y1 y2 y3 y4 y5 y6 y7 y8 y9 y10 y11 y12 y13 y14, LeO (warplaw4_Cells.l1 k y0 y1 y2 y3 y4 y5 y6 y7 y8 y9 y10 y11 y12 y13 y14) (warplaw4_Cells.l1 (k + 1) y0 y1 y2 y3 y4 y5 y6 y7 y8 y9 y10 y11 y12 y13 y14))
 | 0 => ⟨fun _ _ _ _ r h => by simp [warplaw4_Cells.l0] at h, fun _ _ _ _ _ _ _ _ _ _ _ _ _ _ _ r h => by simp [warplaw4_Cells.l1] at h⟩
 | k + 1 => by
  obtain ⟨ih0, ih1⟩ := warplaw4_Cells.mono_l k
  refine ⟨?_, ?_⟩
  ·
   intro y0 y1 y2 y3
   unfold warplaw4_Cells.l0
   repeat' first
   | (with_reducible exact ih0 _ _ _ _)
   | (with_reducible exact ih1 _ _ _ _ _ _ _ _ _ _ _ _ _ _ _)
   | (with_reducible exact warplaw4_Ops.mono _ _ _)
   | (with_reducible exact warpref1_NewPart.mono _ _)
   | (with_reducible exact LeO.refl _)
   | (with_reducible exact LeO.none _)
   | (with_reducible refine LeO.ite ?_ ?_)
   | (with_reducible refine LeO.bind ?_ (fun _ => ?_))
   | exact ih0 _ _ _ _
   | exact ih1 _ _ _ _ _ _ _ _ _ _ _ _ _ _ _
   | exact warplaw4_Ops.mono _ _ _
   | exact warpref1_NewPart.mono _ _
   | exact LeO.none _
   | refine LeO.ite ?_ ?_
   | refine LeO.bind ?_ (fun _ => ?_)
  ·
   intro y0 y1 y2 y3 y4 y5 y6 y7 y8 y9 y10 y11 y12 y13 y14
   unfold warplaw4_Cells.l1
   repeat' first
   | (with_reducible exact ih0 _ _ _ _)
   | (with_reducible exact ih1 _ _ _ _ _ _ _ _ _ _ _ _ _ _ _)
   | (with_reducible exact warplaw4_Ops.mono _ _ _)
   | (with_reducible exact warpref1_NewPart.mono _ _)
   | (with_reducible exact LeO.refl _)
   | (with_reducible exact LeO.none _)
   | (with_reducible refine LeO.ite ?_ ?_)
   | (with_reducible refine LeO.bind ?_ (fun _ => ?_))
   | exact ih0 _ _ _ _
   | exact ih1 _ _ _ _ _ _ _ _ _ _ _ _ _ _ _
   | exact warplaw4_Ops.mono _ _ _
   | exact warpref1_NewPart.mono _ _
   | exact LeO.none _
   | refine LeO.ite ?_ ?_
   | refine LeO.bind ?_ (fun _ => ?_)
theorem warplaw4_Cells.mono : ∀ a0 a1 k, LeO (warplaw4_Cells.f k a0 a1) (warplaw4_Cells.f (k + 1) a0 a1) := by
 intro a0 a1 k
 obtain ⟨ih0, ih1⟩ := warplaw4_Cells.mono_l k
 unfold warplaw4_Cells.f
 repeat' first
  | (with_reducible exact ih0 _ _ _ _)
  | (with_reducible exact ih1 _ _ _ _ _ _ _ _ _ _ _ _ _ _ _)
  | (with_reducible exact warplaw4_Ops.mono _ _ _)
  | (with_reducible exact warpref1_NewPart.mono _ _)
  | (with_reducible exact LeO.refl _)
  | (with_reducible exact LeO.none _)
  | (with_reducible refine LeO.ite ?_ ?_)
  | (with_reducible refine LeO.bind ?_ (fun _ => ?_))
  | exact ih0 _ _ _ _
  | exact ih1 _ _ _ _ _ _ _ _ _ _ _ _ _ _ _
  | exact warplaw4_Ops.mono _ _ _
  | exact warpref1_NewPart.mono _ _
  | exact LeO.none _
  | refine LeO.ite ?_ ?_
  | refine LeO.bind ?_ (fun _ => ?_)
set_option maxHeartbeats 8000000 in
set_option maxRecDepth 100000 in
theorem warplaw4_Cells.calls (k : Nat) (A0 : Option Addr) (c0 : Nat) (l0 : List Int) (A1 : Option Addr) (c1 : Nat) (l1 : List Int) (r : List Int) (w : World) (hr0 : Kd.C (Kd.int .u8) w A0 l0.length l0) (hc0 : l0.length ≤ c0) (hr1 : Kd.C (Kd.int .i64) w A1 l1.length l1) (hc1 : l1.length ≤ c1) (h : warplaw4_Cells.f k l0 l1 = some r) :
 Calls Try.prog 10 #[.slice A0 l0.length c0, .slice A1 l1.length c1] w fun e w' => ∃ v0_ : Value, e = .returned (v0_) ∧ Kd.R (Kd.int .i64) 3 w' w.heap.size (fun _ => True) v0_ r ∧ Below w.heap.size w w' := by
 have hu28 := Try.underlying28
 have hu31 := Try.underlying31
 have hu45 := Try.underlying45
 have hfd42_0 : ∀ (v0_ v1_ v2_ v3_ v4_ v5_ v6_ v7_ v8_ v9_ v10_ : Value) (W : World), (Instr.field 42 (.agg #[v0_, v1_, v2_, v3_, v4_, v5_, v6_, v7_, v8_, v9_, v10_]) 0).run Try.prog W = .ok (.agg #[v0_, v1_, v2_, v3_, v4_, v5_, v6_, v7_, v8_, v9_]) W := fun _ _ _ _ _ _ _ _ _ _ _ _ => by kernel_rfl
 have HR0 := Aside0.mk hr0
 have HC0 := Aside0.mk hc0
 clear hr0 hc0
 have HR1 := Aside0.mk hr1
 have HC1 := Aside0.mk hc1
 clear hr1 hc1
 have HB := Aside0.mk (Below.refl w.heap.size w)
 have H : ((warpref1_NewPart.f k (l1.length : Int)).bind fun t123 => ((warplaw4_Ops.f k l0 (l1.length : Int)).bind fun t126 => (warplaw4_Cells.l0 k l1 t123 t126 0))) = some r := h
 clear h
 replace H := Option.bind_eq_some_iff.mp H
 obtain ⟨t123, A30, H⟩ := H
 replace H : ((warplaw4_Ops.f k l0 (l1.length : Int)).bind fun t126 => (warplaw4_Cells.l0 k l1 t123 t126 0)) = some r := H
 have A3 := Aside0.mk A30
 clear A30
 replace H := Option.bind_eq_some_iff.mp H
 obtain ⟨t126, A40, H⟩ := H
 replace H : (warplaw4_Cells.l0 k l1 t123 t126 0) = some r := H
 have A4 := Aside0.mk A40
 clear A40
 have H' := Aside0.mk H
 clear H
 go_enter Try.func10, Try.ntmps10
 go_wp2_with (first | ((with_reducible refine gate_callee (f := 21) rfl ?_); refine goesL_ (some 13) rfl rfl Try.func21 (by kernel_rfl) rfl #[.int .i64 (l1.length : Int)] rfl (by (try simp only [List.map_toArray, List.map_cons, List.map_nil]); first | done | rfl | (simp only [List.length_drop, List.length_take]; rfl)) ?_; (with_reducible refine (warpref1_NewPart.calls k (l1.length : Int) t123 _ A3.out).mono ?_); rintro e w5 ⟨v124, rfl, ho0, hb⟩; refine ⟨_, rfl, ?_⟩; have n0_ := Aside0.mk (Kd.R_lower ho0 (below_size (by repeat (first | (with_reducible first | exact HB.out | apply below_alloc | apply pw_below_drewN | apply below_drew1) | exact HB.out)))); have n1_ := Aside0.mk (below_step (by repeat (first | (with_reducible first | exact HB.out | apply below_alloc | apply pw_below_drewN | apply below_drew1) | exact HB.out)) hb); clear HB; have HO125 := n0_; have HB := n1_; clear n0_ n1_; (try clear hb); (try clear hb2); (try clear hk); (try clear hi); (try clear ho0)) | ((with_reducible refine gate_callee (f := 22) rfl ?_); refine goesL_ (some 17) rfl rfl Try.func22 (by kernel_rfl) rfl #[.slice A0 l0.length c0, .int .i64 (l1.length : Int)] rfl (by (try simp only [List.map_toArray, List.map_cons, List.map_nil]); first | done | rfl | (simp only [List.length_drop, List.length_take]; rfl)) ?_; (with_reducible refine (warplaw4_Ops.calls k _ _ l0 (l1.length : Int) t126 _ ?side1 ?side2 A4.out).mono ?_); (case side1 => repeat (first | exact (Kd.C_below HR0.out HB.out) | (with_reducible refine Kd.C_alloc ?_ _) | (with_reducible refine Kd.C_drewN ?_ _) | (with_reducible refine Kd.C_drew ?_))); (case side2 => exact HC0.out); rintro e w6 ⟨v127, rfl, ho0, hb⟩; refine ⟨_, rfl, ?_⟩; have n0_ := Aside0.mk (Kd.R_below (by (with_reducible repeat (first | apply Kd.R_alloc | apply Kd.R_drewN | apply Kd.R_drew)); exact HO125.out) hb); have n1_ := Aside0.mk (Kd.R_lower ho0 (below_size (by repeat (first | (with_reducible first | exact HB.out | apply below_alloc | apply pw_below_drewN | apply below_drew1) | exact HB.out)))); have n2_ := Aside0.mk (below_step (by repeat (first | (with_reducible first | exact HB.out | apply below_alloc | apply pw_below_drewN | apply below_drew1) | exact HB.out)) hb); clear HO125; clear HB; have HO125 := n0_; have HO128 := n1_; have HB := n2_; clear n0_ n1_ n2_; (try clear hb); (try clear hb2); (try clear hk); (try clear hi); (try clear ho0)))
 go_loopg [5, 7] k (fun kq v5 v7 w' => ∃ (x5_1 : List Int) (x7_1 : Int), v7 = .int .i64 x7_1 ∧ Aside0 (warplaw4_Cells.l0 kq l1 x5_1 t126 x7_1 = some r) ∧ Aside0 (kq ≤ k) ∧ Aside0 (Kd.R (Kd.int .i64) 3 w' w.heap.size (fun _ => True) v5 x5_1) ∧ Aside0 (Kd.R k28 28 w' w.heap.size (fun _ => True) v127 t126) ∧ Aside0 (Below w.heap.size w w'))
 case atStart => exact ⟨(t123), (0), (by first | rfl | (simp; done) | (simp [*]; done)), H', ⟨Nat.le_refl _⟩, ⟨by (with_reducible repeat (first | apply Kd.R_alloc | apply Kd.R_drewN | apply Kd.R_drew)); exact HO125.out⟩, ⟨by (with_reducible repeat (first | apply Kd.R_alloc | apply Kd.R_drewN | apply Kd.R_drew)); exact HO128.out⟩, ⟨by repeat (first | (with_reducible first | exact HB.out | apply below_alloc | apply pw_below_drewN | apply below_drew1) | exact HB.out)⟩⟩
 case round =>
  clear H'
  (try clear c1); (try clear c2); (try clear p2)
  obtain ⟨x5_1, x7_1, rfl, HA, HK1, HO_5, HO_6, HB⟩ := hrel
  cases gk with
  | zero => exact absurd HA.out (by simp [warplaw4_Cells.l0])
  | succ k1 =>
   have H := HA.out
   clear HA
   simp only [warplaw4_Cells.l0] at H
   by_cases c7 : x7_1 < (t126.length : Int)
   ·
    rw [if_pos c7] at H
    have c7b0 : decide (x7_1 < (t126.length : Int)) = true := decide_eq_true c7
    clear c7
    by_cases c8 : 0 ≤ x7_1
    ·
     rw [if_pos c8] at H
     have c8b0 : decide (0 ≤ x7_1) = true := decide_eq_true c8
     clear c8
     replace H := Option.bind_eq_some_iff.mp H
     obtain ⟨⟨t130, t131, t132, t133, t134, t135, t136, t137, t138, t139, t140⟩, A90, H⟩ := H
     replace H : (warplaw4_Cells.l1 k1 l1 x5_1 t126 x7_1 0 t130 t131 t132 t133 t134 t135 t136 t137 t138 t139) = some r := H
     have A9 := Aside0.mk A90
     clear A90
     have H' := Aside0.mk H
     clear H
     obtain ⟨Ao10, co10, eo10⟩ := Kd.R_slice HO_6.out
     subst eo10
     have p129 : 0 ≤ (x7_1 : Int) := of_decide_eq_true (by first | (with_reducible assumption) | assumption)
     have q129 : x7_1 < (t126.length : Int) := of_decide_eq_true (by first | (with_reducible assumption) | assumption)
     obtain ⟨ad129, e129, hx129_0, hx129_1, hx129_2⟩ := at_T28 (Kd.R_reads' HO_6.out).2.2 x7_1 p129 q129
     cases e129
     replace p129 := eq_true p129
     replace q129 := eq_true q129
     go_wp2_with (first | ((with_reducible refine gate_callee (f := 16) rfl ?_); refine goesL_ (some 30) rfl rfl Try.func16 (by kernel_rfl) rfl #[.agg #[.int .i64 ((rd_T28 t126 x7_1).f0), .int .i64 ((rd_T28 t126 x7_1).f1), .int .i64 ((rd_T28 t126 x7_1).f2)], .int .i64 (l1.length : Int)] rfl (by (try simp only [List.map_toArray, List.map_cons, List.map_nil]); first | done | rfl | (simp only [List.length_drop, List.length_take]; rfl)) ?_; (with_reducible refine (warpref1_Begin.calls ((rd_T28 t126 x7_1).f0) ((rd_T28 t126 x7_1).f1) ((rd_T28 t126 x7_1).f2) (l1.length : Int) t130 t131 t132 t133 t134 t135 t136 t137 t138 t139 t140 _ A9.out).mono ?_); rintro e w11 ⟨rfl, hb⟩; refine ⟨_, rfl, ?_⟩; have n0_ := Aside0.mk (Kd.R_below (by (with_reducible repeat (first | apply Kd.R_alloc | apply Kd.R_drewN | apply Kd.R_drew)); exact HO_5.out) hb); have n1_ := Aside0.mk (Kd.R_below (by (with_reducible repeat (first | apply Kd.R_alloc | apply Kd.R_drewN | apply Kd.R_drew)); exact HO_6.out) hb); have n2_ := Aside0.mk (below_step (by repeat (first | (with_reducible first | exact HB.out | apply below_alloc | apply pw_below_drewN | apply below_drew1) | exact HB.out)) hb); clear HO_5; clear HO_6; clear HB; have HO_5 := n0_; have HO_6 := n1_; have HB := n2_; clear n0_ n1_ n2_; (try clear hb); (try clear hb2); (try clear hk); (try clear hi)) | ((with_reducible refine gate_dst (N := 8) rfl ?_); refine box_event ?hg (N := 8) ?hd (cs := #[.int .i64 0, .int .i64 0, .int .i64 0, .int .i64 0, .int .i64 0, .int .i64 0, .int .i64 0, .int .i64 0, .bool false, .int .i64 0]) (t := 31) ?hr ?_; (case hd => rfl); (case hg => rfl); (case hr => first | (go_simp; done) | (go_simp; rfl)); intro gb141 hg w12 hbox hb; have n0_ := Aside0.mk (Kd.R_below (by (with_reducible repeat (first | apply Kd.R_alloc | apply Kd.R_drewN | apply Kd.R_drew)); exact HO_5.out) hb); have n1_ := Aside0.mk (Kd.R_below (by (with_reducible repeat (first | apply Kd.R_alloc | apply Kd.R_drewN | apply Kd.R_drew)); exact HO_6.out) hb); have n2_ := Aside0.mk (below_step (by repeat (first | (with_reducible first | exact HB.out | apply below_alloc | apply pw_below_drewN | apply below_drew1) | exact HB.out)) hb); have n3_ := Aside0.mk (hbox); have n4_ := Aside0.mk ((by rw [hg]; exact (below_size (by repeat (first | (with_reducible first | exact HB.out | apply below_alloc | apply pw_below_drewN | apply below_drew1) | exact HB.out))) : w.heap.size ≤ gb141)); have n5_ := Aside0.mk ((by rw [hg]; exact (below_size (by repeat (first | (with_reducible first | exact HB.out | apply below_alloc | apply pw_below_drewN | apply below_drew1) | exact HB.out))) : w.heap.size ≤ gb141)); clear HO_5; clear HO_6; clear HB; have HO_5 := n0_; have HO_6 := n1_; have HB := n2_; have BK141 := n3_; have GW141 := n4_; have GE141 := n5_; clear n0_ n1_ n2_ n3_ n4_ n5_; clear hb hbox hg; have hcz13_0 : w12.cell? ⟨gb141, 0, none⟩ = some (.int .i64 0) := (blk_cell BK141.out 0).trans rfl; have hcz13_1 : w12.cell? ⟨gb141, 1, none⟩ = some (.int .i64 0) := (blk_cell BK141.out 1).trans rfl; have hcz13_2 : w12.cell? ⟨gb141, 2, none⟩ = some (.int .i64 0) := (blk_cell BK141.out 2).trans rfl; have hcz13_3 : w12.cell? ⟨gb141, 3, none⟩ = some (.int .i64 0) := (blk_cell BK141.out 3).trans rfl; have hcz13_4 : w12.cell? ⟨gb141, 4, none⟩ = some (.int .i64 0) := (blk_cell BK141.out 4).trans rfl; have hcz13_5 : w12.cell? ⟨gb141, 5, none⟩ = some (.int .i64 0) := (blk_cell BK141.out 5).trans rfl; have hcz13_6 : w12.cell? ⟨gb141, 6, none⟩ = some (.int .i64 0) := (blk_cell BK141.out 6).trans rfl; have hcz13_7 : w12.cell? ⟨gb141, 7, none⟩ = some (.int .i64 0) := (blk_cell BK141.out 7).trans rfl; have hcz13_8 : w12.cell? ⟨gb141, 8, none⟩ = some (.bool false) := (blk_cell BK141.out 8).trans rfl; have hcz13_9 : w12.cell? ⟨gb141, 9, none⟩ = some (.int .i64 0) := (blk_cell BK141.out 9).trans rfl; have hfz13_0 := blk_frozen BK141.out 0; have hfz13_1 := blk_frozen BK141.out 1; have hfz13_2 := blk_frozen BK141.out 2; have hfz13_3 := blk_frozen BK141.out 3; have hfz13_4 := blk_frozen BK141.out 4; have hfz13_5 := blk_frozen BK141.out 5; have hfz13_6 := blk_frozen BK141.out 6; have hfz13_7 := blk_frozen BK141.out 7; have hfz13_8 := blk_frozen BK141.out 8; have hfz13_9 := blk_frozen BK141.out 9))
     go_loopg [5, 9] k1 (fun kq v5 v9 w' => ∃ (x5_2 : List Int) (x9_2 : Int) (x142000_2 : Int) (x142001_2 : Int) (x142002_2 : Int) (x142003_2 : Int) (x142004_2 : Int) (x142005_2 : Int) (x142006_2 : Int) (x142007_2 : Int) (x142008_2 : Bool) (x142009_2 : Int), v9 = .int .i64 x9_2 ∧ Aside0 (warplaw4_Cells.l1 kq l1 x5_2 t126 x7_1 x9_2 x142000_2 x142001_2 x142002_2 x142003_2 x142004_2 x142005_2 x142006_2 x142007_2 x142008_2 x142009_2 = some r) ∧ Aside0 (kq ≤ k1) ∧ Aside0 (Kd.R (Kd.int .i64) 3 w' w.heap.size (fun _ => True) v5 x5_2) ∧ Aside0 (Kd.R k28 28 w' w.heap.size (fun _ => True) (.slice (some ad129) t126.length co10) t126) ∧ Aside0 (w'.heap[gb141]? = some (.cells #[.int .i64 x142000_2, .int .i64 x142001_2, .int .i64 x142002_2, .int .i64 x142003_2, .int .i64 x142004_2, .int .i64 x142005_2, .int .i64 x142006_2, .int .i64 x142007_2, .bool x142008_2, .int .i64 x142009_2] 31 (0, 0))) ∧ Aside0 (Below w.heap.size w w'))
     case atStart => exact ⟨(x5_1), (0), (t130), (t131), (t132), (t133), (t134), (t135), (t136), (t137), (t138), (t139), (by first | rfl | (simp; done) | (simp [*]; done)), H', ⟨Nat.le_refl _⟩, ⟨by (with_reducible repeat (first | apply Kd.R_alloc | apply Kd.R_drewN | apply Kd.R_drew)); exact Kd.R_mono (Kd.R_far (p := ⟨gb141, 9, none⟩) (Kd.R_far (p := ⟨gb141, 8, none⟩) (Kd.R_far (p := ⟨gb141, 7, none⟩) (Kd.R_far (p := ⟨gb141, 6, none⟩) (Kd.R_far (p := ⟨gb141, 5, none⟩) (Kd.R_far (p := ⟨gb141, 4, none⟩) (Kd.R_far (p := ⟨gb141, 3, none⟩) (Kd.R_far (p := ⟨gb141, 2, none⟩) (Kd.R_far (p := ⟨gb141, 1, none⟩) (Kd.R_far (p := ⟨gb141, 0, none⟩) (Kd.R_types HO_5.out BK141.out (by decide)) (fun _ hk => hk.2) (.int .i64 t130)) (fun _ hk => hk.2) (.int .i64 t131)) (fun _ hk => hk.2) (.int .i64 t132)) (fun _ hk => hk.2) (.int .i64 t133)) (fun _ hk => hk.2) (.int .i64 t134)) (fun _ hk => hk.2) (.int .i64 t135)) (fun _ hk => hk.2) (.int .i64 t136)) (fun _ hk => hk.2) (.int .i64 t137)) (fun _ hk => hk.2) (.bool t138)) (fun _ hk => hk.2) (.int .i64 t139)) (fun _ hk => trivial)⟩, ⟨by (with_reducible repeat (first | apply Kd.R_alloc | apply Kd.R_drewN | apply Kd.R_drew)); exact Kd.R_mono (Kd.R_far (p := ⟨gb141, 9, none⟩) (Kd.R_far (p := ⟨gb141, 8, none⟩) (Kd.R_far (p := ⟨gb141, 7, none⟩) (Kd.R_far (p := ⟨gb141, 6, none⟩) (Kd.R_far (p := ⟨gb141, 5, none⟩) (Kd.R_far (p := ⟨gb141, 4, none⟩) (Kd.R_far (p := ⟨gb141, 3, none⟩) (Kd.R_far (p := ⟨gb141, 2, none⟩) (Kd.R_far (p := ⟨gb141, 1, none⟩) (Kd.R_far (p := ⟨gb141, 0, none⟩) (Kd.R_types HO_6.out BK141.out (by decide)) (fun _ hk => hk.2) (.int .i64 t130)) (fun _ hk => hk.2) (.int .i64 t131)) (fun _ hk => hk.2) (.int .i64 t132)) (fun _ hk => hk.2) (.int .i64 t133)) (fun _ hk => hk.2) (.int .i64 t134)) (fun _ hk => hk.2) (.int .i64 t135)) (fun _ hk => hk.2) (.int .i64 t136)) (fun _ hk => hk.2) (.int .i64 t137)) (fun _ hk => hk.2) (.bool t138)) (fun _ hk => hk.2) (.int .i64 t139)) (fun _ hk => trivial)⟩, ⟨by (with_reducible repeat (first | refine blk_drewN ?_ _ | refine blk_drew ?_ | refine blk_alloc ?_ _)); refine blk_put (cs := #[.int .i64 t130, .int .i64 t131, .int .i64 t132, .int .i64 t133, .int .i64 t134, .int .i64 t135, .int .i64 t136, .int .i64 t137, .bool t138, .int .i64 0]) ?_ 9 _ rfl; (with_reducible repeat (first | refine blk_drewN ?_ _ | refine blk_drew ?_ | refine blk_alloc ?_ _)); refine blk_put (cs := #[.int .i64 t130, .int .i64 t131, .int .i64 t132, .int .i64 t133, .int .i64 t134, .int .i64 t135, .int .i64 t136, .int .i64 t137, .bool false, .int .i64 0]) ?_ 8 _ rfl; (with_reducible repeat (first | refine blk_drewN ?_ _ | refine blk_drew ?_ | refine blk_alloc ?_ _)); refine blk_put (cs := #[.int .i64 t130, .int .i64 t131, .int .i64 t132, .int .i64 t133, .int .i64 t134, .int .i64 t135, .int .i64 t136, .int .i64 0, .bool false, .int .i64 0]) ?_ 7 _ rfl; (with_reducible repeat (first | refine blk_drewN ?_ _ | refine blk_drew ?_ | refine blk_alloc ?_ _)); refine blk_put (cs := #[.int .i64 t130, .int .i64 t131, .int .i64 t132, .int .i64 t133, .int .i64 t134, .int .i64 t135, .int .i64 0, .int .i64 0, .bool false, .int .i64 0]) ?_ 6 _ rfl; (with_reducible repeat (first | refine blk_drewN ?_ _ | refine blk_drew ?_ | refine blk_alloc ?_ _)); refine blk_put (cs := #[.int .i64 t130, .int .i64 t131, .int .i64 t132, .int .i64 t133, .int .i64 t134, .int .i64 0, .int .i64 0, .int .i64 0, .bool false, .int .i64 0]) ?_ 5 _ rfl; (with_reducible repeat (first | refine blk_drewN ?_ _ | refine blk_drew ?_ | refine blk_alloc ?_ _)); refine blk_put (cs := #[.int .i64 t130, .int .i64 t131, .int .i64 t132, .int .i64 t133, .int .i64 0, .int .i64 0, .int .i64 0, .int .i64 0, .bool false, .int .i64 0]) ?_ 4 _ rfl; (with_reducible repeat (first | refine blk_drewN ?_ _ | refine blk_drew ?_ | refine blk_alloc ?_ _)); refine blk_put (cs := #[.int .i64 t130, .int .i64 t131, .int .i64 t132, .int .i64 0, .int .i64 0, .int .i64 0, .int .i64 0, .int .i64 0, .bool false, .int .i64 0]) ?_ 3 _ rfl; (with_reducible repeat (first | refine blk_drewN ?_ _ | refine blk_drew ?_ | refine blk_alloc ?_ _)); refine blk_put (cs := #[.int .i64 t130, .int .i64 t131, .int .i64 0, .int .i64 0, .int .i64 0, .int .i64 0, .int .i64 0, .int .i64 0, .bool false, .int .i64 0]) ?_ 2 _ rfl; (with_reducible repeat (first | refine blk_drewN ?_ _ | refine blk_drew ?_ | refine blk_alloc ?_ _)); refine blk_put (cs := #[.int .i64 t130, .int .i64 0, .int .i64 0, .int .i64 0, .int .i64 0, .int .i64 0, .int .i64 0, .int .i64 0, .bool false, .int .i64 0]) ?_ 1 _ rfl; (with_reducible repeat (first | refine blk_drewN ?_ _ | refine blk_drew ?_ | refine blk_alloc ?_ _)); refine blk_put (cs := #[.int .i64 0, .int .i64 0, .int .i64 0, .int .i64 0, .int .i64 0, .int .i64 0, .int .i64 0, .int .i64 0, .bool false, .int .i64 0]) ?_ 0 _ rfl; (with_reducible repeat (first | refine blk_drewN ?_ _ | refine blk_drew ?_ | refine blk_alloc ?_ _)); exact BK141.out⟩, ⟨by repeat (first | (with_reducible first | exact HB.out | apply below_alloc | apply pw_below_drewN | apply below_drew1 | refine below_set ?_ GE141.out) | exact HB.out)⟩⟩
     case round =>
      clear H'
      (try clear c1); (try clear p1); (try clear q1); (try clear hx1); (try clear c2); (try clear p2); (try clear c7); (try clear c7b0); (try clear c8); (try clear c8b0); (try clear c10); (try clear p12); (try clear q12); (try clear hx12); (try clear hcz13_0); (try clear hcz13_1); (try clear hcz13_2); (try clear hcz13_3); (try clear hcz13_4); (try clear hcz13_5); (try clear hcz13_6); (try clear hcz13_7); (try clear hcz13_8); (try clear hcz13_9); (try clear hfz13_0); (try clear hfz13_1); (try clear hfz13_2); (try clear hfz13_3); (try clear hfz13_4); (try clear hfz13_5); (try clear hfz13_6); (try clear hfz13_7); (try clear hfz13_8); (try clear hfz13_9); (try clear hx129_0); (try clear hx129_1); (try clear hx129_2); (try clear p129); (try clear p2); (try clear q129)
      obtain ⟨x5_2, x9_2, x142000_2, x142001_2, x142002_2, x142003_2, x142004_2, x142005_2, x142006_2, x142007_2, x142008_2, x142009_2, rfl, HA, HK2, HO_5, HO_6, BK141, HB⟩ := hrel
      cases gk with
      | zero => exact absurd HA.out (by simp [warplaw4_Cells.l1])
      | succ k2 =>
       have H := HA.out
       clear HA
       simp only [warplaw4_Cells.l1] at H
       by_cases c14 : x9_2 < 1000
       ·
        rw [if_pos c14] at H
        have c14b0 : decide (x9_2 < 1000) = true := decide_eq_true c14
        clear c14
        by_cases c15 : x142008_2 = true
        ·
         subst c15
         have H1 : (warplaw4_Cells.l0 k2 l1 x5_2 t126 (wrap64 (x7_1 + 1))) = some r := by rw [if_pos rfl] at H; exact H
         clear H
         have H := H1
         clear H1
         have H' := Aside0.mk H
         clear H
         have hcz16_0 : wr.cell? ⟨gb141, 0, none⟩ = some (.int .i64 x142000_2) := (blk_cell BK141.out 0).trans rfl
         have hcz16_1 : wr.cell? ⟨gb141, 1, none⟩ = some (.int .i64 x142001_2) := (blk_cell BK141.out 1).trans rfl
         have hcz16_2 : wr.cell? ⟨gb141, 2, none⟩ = some (.int .i64 x142002_2) := (blk_cell BK141.out 2).trans rfl
         have hcz16_3 : wr.cell? ⟨gb141, 3, none⟩ = some (.int .i64 x142003_2) := (blk_cell BK141.out 3).trans rfl
         have hcz16_4 : wr.cell? ⟨gb141, 4, none⟩ = some (.int .i64 x142004_2) := (blk_cell BK141.out 4).trans rfl
         have hcz16_5 : wr.cell? ⟨gb141, 5, none⟩ = some (.int .i64 x142005_2) := (blk_cell BK141.out 5).trans rfl
         have hcz16_6 : wr.cell? ⟨gb141, 6, none⟩ = some (.int .i64 x142006_2) := (blk_cell BK141.out 6).trans rfl
         have hcz16_7 : wr.cell? ⟨gb141, 7, none⟩ = some (.int .i64 x142007_2) := (blk_cell BK141.out 7).trans rfl
         have hcz16_8 : wr.cell? ⟨gb141, 8, none⟩ = some (.bool true) := (blk_cell BK141.out 8).trans rfl
         have hcz16_9 : wr.cell? ⟨gb141, 9, none⟩ = some (.int .i64 x142009_2) := (blk_cell BK141.out 9).trans rfl
         have hfz16_0 := blk_frozen BK141.out 0
         have hfz16_1 := blk_frozen BK141.out 1
         have hfz16_2 := blk_frozen BK141.out 2
         have hfz16_3 := blk_frozen BK141.out 3
         have hfz16_4 := blk_frozen BK141.out 4
         have hfz16_5 := blk_frozen BK141.out 5
         have hfz16_6 := blk_frozen BK141.out 6
         have hfz16_7 := blk_frozen BK141.out 7
         have hfz16_8 := blk_frozen BK141.out 8
         have hfz16_9 := blk_frozen BK141.out 9
         go_wp2
         go_roundg k2
         case measure => have := HK1.out; have := HK2.out; omega
         case rel => exact ⟨(x5_2), (wrap64 (x7_1 + 1)), (by first | rfl | (simp; done) | (simp [*]; done)), H', ⟨by have := HK1.out; have := HK2.out; omega⟩, ⟨by (with_reducible repeat (first | apply Kd.R_alloc | apply Kd.R_drewN | apply Kd.R_drew)); exact HO_5.out⟩, ⟨by (with_reducible repeat (first | apply Kd.R_alloc | apply Kd.R_drewN | apply Kd.R_drew)); exact HO_6.out⟩, ⟨by repeat (first | (with_reducible first | exact HB.out | apply below_alloc | apply pw_below_drewN | apply below_drew1 | refine below_set ?_ GE141.out) | exact HB.out)⟩⟩
        ·
         replace c15 := Bool.eq_false_iff.mpr c15
         subst c15
         have H1 : ((warpref1_Step.f x5_2 l1 x142000_2 x142001_2 x142002_2 x142003_2 x142004_2 x142005_2 x142006_2 x142007_2 false x142009_2).bind fun bt142 => (warplaw4_Cells.l1 k2 l1 bt142.1 t126 x7_1 (wrap64 (x9_2 + 1)) bt142.2.1 bt142.2.2.1 bt142.2.2.2.1 bt142.2.2.2.2.1 bt142.2.2.2.2.2.1 bt142.2.2.2.2.2.2.1 bt142.2.2.2.2.2.2.2.1 bt142.2.2.2.2.2.2.2.2.1 bt142.2.2.2.2.2.2.2.2.2.1 bt142.2.2.2.2.2.2.2.2.2.2)) = some r := by rw [if_neg (show ¬ (false = true) by decide)] at H; exact H
         clear H
         have H := H1
         clear H1
         replace H := Option.bind_eq_some_iff.mp H
         obtain ⟨⟨t142, t145, t146, t147, t148, t149, t150, t151, t152, t153, t154⟩, A170, H⟩ := H
         replace H : (warplaw4_Cells.l1 k2 l1 t142 t126 x7_1 (wrap64 (x9_2 + 1)) t145 t146 t147 t148 t149 t150 t151 t152 t153 t154) = some r := H
         have A17 := Aside0.mk A170
         clear A170
         have H' := Aside0.mk H
         clear H
         have hcz18_0 : wr.cell? ⟨gb141, 0, none⟩ = some (.int .i64 x142000_2) := (blk_cell BK141.out 0).trans rfl
         have hcz18_1 : wr.cell? ⟨gb141, 1, none⟩ = some (.int .i64 x142001_2) := (blk_cell BK141.out 1).trans rfl
         have hcz18_2 : wr.cell? ⟨gb141, 2, none⟩ = some (.int .i64 x142002_2) := (blk_cell BK141.out 2).trans rfl
         have hcz18_3 : wr.cell? ⟨gb141, 3, none⟩ = some (.int .i64 x142003_2) := (blk_cell BK141.out 3).trans rfl
         have hcz18_4 : wr.cell? ⟨gb141, 4, none⟩ = some (.int .i64 x142004_2) := (blk_cell BK141.out 4).trans rfl
         have hcz18_5 : wr.cell? ⟨gb141, 5, none⟩ = some (.int .i64 x142005_2) := (blk_cell BK141.out 5).trans rfl
         have hcz18_6 : wr.cell? ⟨gb141, 6, none⟩ = some (.int .i64 x142006_2) := (blk_cell BK141.out 6).trans rfl
         have hcz18_7 : wr.cell? ⟨gb141, 7, none⟩ = some (.int .i64 x142007_2) := (blk_cell BK141.out 7).trans rfl
         have hcz18_8 : wr.cell? ⟨gb141, 8, none⟩ = some (.bool false) := (blk_cell BK141.out 8).trans rfl
         have hcz18_9 : wr.cell? ⟨gb141, 9, none⟩ = some (.int .i64 x142009_2) := (blk_cell BK141.out 9).trans rfl
         have hfz18_0 := blk_frozen BK141.out 0
         have hfz18_1 := blk_frozen BK141.out 1
         have hfz18_2 := blk_frozen BK141.out 2
         have hfz18_3 := blk_frozen BK141.out 3
         have hfz18_4 := blk_frozen BK141.out 4
         have hfz18_5 := blk_frozen BK141.out 5
         have hfz18_6 := blk_frozen BK141.out 6
         have hfz18_7 := blk_frozen BK141.out 7
         have hfz18_8 := blk_frozen BK141.out 8
         have hfz18_9 := blk_frozen BK141.out 9
         obtain ⟨Ao19, co19, eo19⟩ := Kd.R_slice HO_5.out
         subst eo19
         go_wp2_with (first | ((with_reducible refine gate_callee (f := 17) rfl ?_); refine goesL_ (some 44) rfl rfl Try.func17 (by kernel_rfl) rfl #[.slice Ao19 x5_2.length co19, .slice A1 l1.length c1, .agg #[.int .i64 x142000_2, .int .i64 x142001_2, .int .i64 x142002_2, .int .i64 x142003_2, .int .i64 x142004_2, .int .i64 x142005_2, .int .i64 x142006_2, .int .i64 x142007_2, .bool false, .int .i64 x142009_2]] rfl (by (try simp only [List.map_toArray, List.map_cons, List.map_nil]); first | done | rfl | (simp only [List.length_drop, List.length_take]; rfl)) ?_; (with_reducible refine (warpref1_Step.calls _ _ x5_2 _ _ l1 x142000_2 x142001_2 x142002_2 x142003_2 x142004_2 x142005_2 x142006_2 x142007_2 false x142009_2 t142 t145 t146 t147 t148 t149 t150 t151 t152 t153 t154 _ ?side1 ?side2 ?side3 ?side4 A17.out).mono ?_); (case side1 => repeat (first | exact (Kd.R_reads' HO_5.out).2.2 | (with_reducible refine Kd.C_alloc ?_ _) | (with_reducible refine Kd.C_drewN ?_ _) | (with_reducible refine Kd.C_drew ?_))); (case side2 => exact (Kd.R_reads' HO_5.out).2.1); (case side3 => repeat (first | exact (Kd.C_below HR1.out HB.out) | (with_reducible refine Kd.C_alloc ?_ _) | (with_reducible refine Kd.C_drewN ?_ _) | (with_reducible refine Kd.C_drew ?_))); (case side4 => exact HC1.out); rintro e w20 ⟨v143, rfl, ho0, hb⟩; refine ⟨_, rfl, ?_⟩; have n0_ := Aside0.mk (Kd.R_elder' (by (with_reducible repeat (first | apply Kd.R_alloc | apply Kd.R_drewN | apply Kd.R_drew)); exact HO_5.out) (Kd.R_base ho0) hb); have n1_ := Aside0.mk (Kd.R_below (by (with_reducible repeat (first | apply Kd.R_alloc | apply Kd.R_drewN | apply Kd.R_drew)); exact HO_6.out) hb); have n2_ := Aside0.mk (Kd.R_lower (Kd.R_new' ho0 (Kd.R_lt (by (with_reducible repeat (first | apply Kd.R_alloc | apply Kd.R_drewN | apply Kd.R_drew)); exact HO_5.out))) (below_size (by repeat (first | (with_reducible first | exact HB.out | apply below_alloc | apply pw_below_drewN | apply below_drew1 | refine below_set ?_ GE141.out) | exact HB.out)))); have n3_ := Aside0.mk (blk_below (g := gb141) (o := .cells #[.int .i64 x142000_2, .int .i64 x142001_2, .int .i64 x142002_2, .int .i64 x142003_2, .int .i64 x142004_2, .int .i64 x142005_2, .int .i64 x142006_2, .int .i64 x142007_2, .bool false, .int .i64 x142009_2] 31 (0, 0)) (by (with_reducible repeat (first | refine blk_drewN ?_ _ | refine blk_drew ?_ | refine blk_alloc ?_ _)); exact BK141.out) hb); have n4_ := Aside0.mk (below_step (by repeat (first | (with_reducible first | exact HB.out | apply below_alloc | apply pw_below_drewN | apply below_drew1 | refine below_set ?_ GE141.out) | exact HB.out)) hb); clear HO_5; clear HO_6; clear BK141; clear HB; have HO_5 := n0_; have HO_6 := n1_; have HO144 := n2_; have BK141 := n3_; have HB := n4_; clear n0_ n1_ n2_ n3_ n4_; (try clear hb); (try clear hb2); (try clear hk); (try clear hi); (try clear ho0)) | ((with_reducible refine gate_dst (N := 10) rfl ?_); refine box_event ?hg (N := 10) ?hd (cs := #[.slice none 0 0, .int .i64 0, .int .i64 0, .int .i64 0, .int .i64 0, .int .i64 0, .int .i64 0, .int .i64 0, .int .i64 0, .bool false, .int .i64 0]) (t := 45) ?hr ?_; (case hd => rfl); (case hg => rfl); (case hr => first | (go_simp; done) | (go_simp; rfl)); intro gb155 hg w21 hbox hb; have n0_ := Aside0.mk (Kd.R_below (by (with_reducible repeat (first | apply Kd.R_alloc | apply Kd.R_drewN | apply Kd.R_drew)); exact HO_5.out) hb); have n1_ := Aside0.mk (Kd.R_below (by (with_reducible repeat (first | apply Kd.R_alloc | apply Kd.R_drewN | apply Kd.R_drew)); exact HO_6.out) hb); have n2_ := Aside0.mk (Kd.R_below (by (with_reducible repeat (first | apply Kd.R_alloc | apply Kd.R_drewN | apply Kd.R_drew)); exact HO144.out) hb); have n3_ := Aside0.mk (blk_below (g := gb141) (o := .cells #[.int .i64 x142000_2, .int .i64 x142001_2, .int .i64 x142002_2, .int .i64 x142003_2, .int .i64 x142004_2, .int .i64 x142005_2, .int .i64 x142006_2, .int .i64 x142007_2, .bool false, .int .i64 x142009_2] 31 (0, 0)) (by (with_reducible repeat (first | refine blk_drewN ?_ _ | refine blk_drew ?_ | refine blk_alloc ?_ _)); exact BK141.out) hb); have n4_ := Aside0.mk (below_step (by repeat (first | (with_reducible first | exact HB.out | apply below_alloc | apply pw_below_drewN | apply below_drew1 | refine below_set ?_ GE141.out) | exact HB.out)) hb); have n5_ := Aside0.mk (hbox); have n6_ := Aside0.mk ((by rw [hg]; exact (below_size (by repeat (first | (with_reducible first | exact HB.out | apply below_alloc | apply pw_below_drewN | apply below_drew1 | refine below_set ?_ GE141.out) | exact HB.out))) : w.heap.size ≤ gb155)); have n7_ := Aside0.mk ((by rw [hg]; exact (below_size (by repeat (first | (with_reducible first | exact HB.out | apply below_alloc | apply pw_below_drewN | apply below_drew1 | refine below_set ?_ GE141.out) | exact HB.out))) : w.heap.size ≤ gb155)); have n8_ := Aside0.mk ((by rw [hg]; exact Nat.ne_of_lt (blk_lt (g := gb141) (o := .cells #[.int .i64 x142000_2, .int .i64 x142001_2, .int .i64 x142002_2, .int .i64 x142003_2, .int .i64 x142004_2, .int .i64 x142005_2, .int .i64 x142006_2, .int .i64 x142007_2, .bool false, .int .i64 x142009_2] 31 (0, 0)) (by (with_reducible repeat (first | refine blk_drewN ?_ _ | refine blk_drew ?_ | refine blk_alloc ?_ _)); exact BK141.out)) : gb141 ≠ gb155)); have n9_ := Aside0.mk ((by rw [hg]; exact Nat.ne_of_gt (blk_lt (g := gb141) (o := .cells #[.int .i64 x142000_2, .int .i64 x142001_2, .int .i64 x142002_2, .int .i64 x142003_2, .int .i64 x142004_2, .int .i64 x142005_2, .int .i64 x142006_2, .int .i64 x142007_2, .bool false, .int .i64 x142009_2] 31 (0, 0)) (by (with_reducible repeat (first | refine blk_drewN ?_ _ | refine blk_drew ?_ | refine blk_alloc ?_ _)); exact BK141.out)) : gb155 ≠ gb141)); clear HO_5; clear HO_6; clear HO144; clear BK141; clear HB; have HO_5 := n0_; have HO_6 := n1_; have HO144 := n2_; have BK141 := n3_; have HB := n4_; have BK155 := n5_; have GW155 := n6_; have GE155 := n7_; have NB141_155 := n8_; have NB155_141 := n9_; clear n0_ n1_ n2_ n3_ n4_ n5_ n6_ n7_ n8_ n9_; clear hb hbox hg; obtain ⟨Ao22, co22, eo22⟩ := Kd.R_slice HO144.out; subst eo22; have hnb23 := NB155_141.out; have hnc23 := NB141_155.out; have hcz24_0 : w21.cell? ⟨gb155, 0, none⟩ = some (.slice none 0 0) := (blk_cell BK155.out 0).trans rfl; have hcz24_1 : w21.cell? ⟨gb155, 1, none⟩ = some (.int .i64 0) := (blk_cell BK155.out 1).trans rfl; have hcz24_2 : w21.cell? ⟨gb155, 2, none⟩ = some (.int .i64 0) := (blk_cell BK155.out 2).trans rfl; have hcz24_3 : w21.cell? ⟨gb155, 3, none⟩ = some (.int .i64 0) := (blk_cell BK155.out 3).trans rfl; have hcz24_4 : w21.cell? ⟨gb155, 4, none⟩ = some (.int .i64 0) := (blk_cell BK155.out 4).trans rfl; have hcz24_5 : w21.cell? ⟨gb155, 5, none⟩ = some (.int .i64 0) := (blk_cell BK155.out 5).trans rfl; have hcz24_6 : w21.cell? ⟨gb155, 6, none⟩ = some (.int .i64 0) := (blk_cell BK155.out 6).trans rfl; have hcz24_7 : w21.cell? ⟨gb155, 7, none⟩ = some (.int .i64 0) := (blk_cell BK155.out 7).trans rfl; have hcz24_8 : w21.cell? ⟨gb155, 8, none⟩ = some (.int .i64 0) := (blk_cell BK155.out 8).trans rfl; have hcz24_9 : w21.cell? ⟨gb155, 9, none⟩ = some (.bool false) := (blk_cell BK155.out 9).trans rfl; have hcz24_10 : w21.cell? ⟨gb155, 10, none⟩ = some (.int .i64 0) := (blk_cell BK155.out 10).trans rfl; have hfz24_0 := blk_frozen BK155.out 0; have hfz24_1 := blk_frozen BK155.out 1; have hfz24_2 := blk_frozen BK155.out 2; have hfz24_3 := blk_frozen BK155.out 3; have hfz24_4 := blk_frozen BK155.out 4; have hfz24_5 := blk_frozen BK155.out 5; have hfz24_6 := blk_frozen BK155.out 6; have hfz24_7 := blk_frozen BK155.out 7; have hfz24_8 := blk_frozen BK155.out 8; have hfz24_9 := blk_frozen BK155.out 9; have hfz24_10 := blk_frozen BK155.out 10; have hcz25_0 : w21.cell? ⟨gb141, 0, none⟩ = some (.int .i64 x142000_2) := (blk_cell BK141.out 0).trans rfl; have hcz25_1 : w21.cell? ⟨gb141, 1, none⟩ = some (.int .i64 x142001_2) := (blk_cell BK141.out 1).trans rfl; have hcz25_2 : w21.cell? ⟨gb141, 2, none⟩ = some (.int .i64 x142002_2) := (blk_cell BK141.out 2).trans rfl; have hcz25_3 : w21.cell? ⟨gb141, 3, none⟩ = some (.int .i64 x142003_2) := (blk_cell BK141.out 3).trans rfl; have hcz25_4 : w21.cell? ⟨gb141, 4, none⟩ = some (.int .i64 x142004_2) := (blk_cell BK141.out 4).trans rfl; have hcz25_5 : w21.cell? ⟨gb141, 5, none⟩ = some (.int .i64 x142005_2) := (blk_cell BK141.out 5).trans rfl; have hcz25_6 : w21.cell? ⟨gb141, 6, none⟩ = some (.int .i64 x142006_2) := (blk_cell BK141.out 6).trans rfl; have hcz25_7 : w21.cell? ⟨gb141, 7, none⟩ = some (.int .i64 x142007_2) := (blk_cell BK141.out 7).trans rfl; have hcz25_8 : w21.cell? ⟨gb141, 8, none⟩ = some (.bool false) := (blk_cell BK141.out 8).trans rfl; have hcz25_9 : w21.cell? ⟨gb141, 9, none⟩ = some (.int .i64 x142009_2) := (blk_cell BK141.out 9).trans rfl; have hfz25_0 := blk_frozen BK141.out 0; have hfz25_1 := blk_frozen BK141.out 1; have hfz25_2 := blk_frozen BK141.out 2; have hfz25_3 := blk_frozen BK141.out 3; have hfz25_4 := blk_frozen BK141.out 4; have hfz25_5 := blk_frozen BK141.out 5; have hfz25_6 := blk_frozen BK141.out 6; have hfz25_7 := blk_frozen BK141.out 7; have hfz25_8 := blk_frozen BK141.out 8; have hfz25_9 := blk_frozen BK141.out 9))
         go_roundg k2
         case measure => have := HK1.out; have := HK2.out; omega
         case rel => exact ⟨(t142), (wrap64 (x9_2 + 1)), (t145), (t146), (t147), (t148), (t149), (t150), (t151), (t152), (t153), (t154), (by first | rfl | (simp; done) | (simp [*]; done)), H', ⟨by have := HK1.out; have := HK2.out; omega⟩, ⟨by (with_reducible repeat (first | apply Kd.R_alloc | apply Kd.R_drewN | apply Kd.R_drew)); exact Kd.R_mono (Kd.R_far (p := ⟨gb141, 9, none⟩) (Kd.R_far (p := ⟨gb141, 8, none⟩) (Kd.R_far (p := ⟨gb141, 7, none⟩) (Kd.R_far (p := ⟨gb141, 6, none⟩) (Kd.R_far (p := ⟨gb141, 5, none⟩) (Kd.R_far (p := ⟨gb141, 4, none⟩) (Kd.R_far (p := ⟨gb141, 3, none⟩) (Kd.R_far (p := ⟨gb141, 2, none⟩) (Kd.R_far (p := ⟨gb141, 1, none⟩) (Kd.R_far (p := ⟨gb141, 0, none⟩) (Kd.R_far (p := ⟨gb155, 10, none⟩) (Kd.R_far (p := ⟨gb155, 9, none⟩) (Kd.R_far (p := ⟨gb155, 8, none⟩) (Kd.R_far (p := ⟨gb155, 7, none⟩) (Kd.R_far (p := ⟨gb155, 6, none⟩) (Kd.R_far (p := ⟨gb155, 5, none⟩) (Kd.R_far (p := ⟨gb155, 4, none⟩) (Kd.R_far (p := ⟨gb155, 3, none⟩) (Kd.R_far (p := ⟨gb155, 2, none⟩) (Kd.R_far (p := ⟨gb155, 1, none⟩) (Kd.R_far (p := ⟨gb155, 0, none⟩) (Kd.R_types (Kd.R_types HO144.out BK155.out (by decide)) BK141.out (by decide)) (fun _ hk => hk.1.2) (.slice Ao22 t142.length co22)) (fun _ hk => hk.1.2) (.int .i64 t145)) (fun _ hk => hk.1.2) (.int .i64 t146)) (fun _ hk => hk.1.2) (.int .i64 t147)) (fun _ hk => hk.1.2) (.int .i64 t148)) (fun _ hk => hk.1.2) (.int .i64 t149)) (fun _ hk => hk.1.2) (.int .i64 t150)) (fun _ hk => hk.1.2) (.int .i64 t151)) (fun _ hk => hk.1.2) (.int .i64 t152)) (fun _ hk => hk.1.2) (.bool t153)) (fun _ hk => hk.1.2) (.int .i64 t154)) (fun _ hk => hk.2) (.int .i64 t145)) (fun _ hk => hk.2) (.int .i64 t146)) (fun _ hk => hk.2) (.int .i64 t147)) (fun _ hk => hk.2) (.int .i64 t148)) (fun _ hk => hk.2) (.int .i64 t149)) (fun _ hk => hk.2) (.int .i64 t150)) (fun _ hk => hk.2) (.int .i64 t151)) (fun _ hk => hk.2) (.int .i64 t152)) (fun _ hk => hk.2) (.bool t153)) (fun _ hk => hk.2) (.int .i64 t154)) (fun _ hk => trivial)⟩, ⟨by (with_reducible repeat (first | apply Kd.R_alloc | apply Kd.R_drewN | apply Kd.R_drew)); exact Kd.R_mono (Kd.R_far (p := ⟨gb141, 9, none⟩) (Kd.R_far (p := ⟨gb141, 8, none⟩) (Kd.R_far (p := ⟨gb141, 7, none⟩) (Kd.R_far (p := ⟨gb141, 6, none⟩) (Kd.R_far (p := ⟨gb141, 5, none⟩) (Kd.R_far (p := ⟨gb141, 4, none⟩) (Kd.R_far (p := ⟨gb141, 3, none⟩) (Kd.R_far (p := ⟨gb141, 2, none⟩) (Kd.R_far (p := ⟨gb141, 1, none⟩) (Kd.R_far (p := ⟨gb141, 0, none⟩) (Kd.R_far (p := ⟨gb155, 10, none⟩) (Kd.R_far (p := ⟨gb155, 9, none⟩) (Kd.R_far (p := ⟨gb155, 8, none⟩) (Kd.R_far (p := ⟨gb155, 7, none⟩) (Kd.R_far (p := ⟨gb155, 6, none⟩) (Kd.R_far (p := ⟨gb155, 5, none⟩) (Kd.R_far (p := ⟨gb155, 4, none⟩) (Kd.R_far (p := ⟨gb155, 3, none⟩) (Kd.R_far (p := ⟨gb155, 2, none⟩) (Kd.R_far (p := ⟨gb155, 1, none⟩) (Kd.R_far (p := ⟨gb155, 0, none⟩) (Kd.R_types (Kd.R_types HO_6.out BK155.out (by decide)) BK141.out (by decide)) (fun _ hk => hk.1.2) (.slice Ao22 t142.length co22)) (fun _ hk => hk.1.2) (.int .i64 t145)) (fun _ hk => hk.1.2) (.int .i64 t146)) (fun _ hk => hk.1.2) (.int .i64 t147)) (fun _ hk => hk.1.2) (.int .i64 t148)) (fun _ hk => hk.1.2) (.int .i64 t149)) (fun _ hk => hk.1.2) (.int .i64 t150)) (fun _ hk => hk.1.2) (.int .i64 t151)) (fun _ hk => hk.1.2) (.int .i64 t152)) (fun _ hk => hk.1.2) (.bool t153)) (fun _ hk => hk.1.2) (.int .i64 t154)) (fun _ hk => hk.2) (.int .i64 t145)) (fun _ hk => hk.2) (.int .i64 t146)) (fun _ hk => hk.2) (.int .i64 t147)) (fun _ hk => hk.2) (.int .i64 t148)) (fun _ hk => hk.2) (.int .i64 t149)) (fun _ hk => hk.2) (.int .i64 t150)) (fun _ hk => hk.2) (.int .i64 t151)) (fun _ hk => hk.2) (.int .i64 t152)) (fun _ hk => hk.2) (.bool t153)) (fun _ hk => hk.2) (.int .i64 t154)) (fun _ hk => trivial)⟩, ⟨by (with_reducible repeat (first | refine blk_drewN ?_ _ | refine blk_drew ?_ | refine blk_alloc ?_ _)); refine blk_put (cs := #[.int .i64 t145, .int .i64 t146, .int .i64 t147, .int .i64 t148, .int .i64 t149, .int .i64 t150, .int .i64 t151, .int .i64 t152, .bool t153, .int .i64 x142009_2]) ?_ 9 _ rfl; (with_reducible repeat (first | refine blk_drewN ?_ _ | refine blk_drew ?_ | refine blk_alloc ?_ _)); refine blk_put (cs := #[.int .i64 t145, .int .i64 t146, .int .i64 t147, .int .i64 t148, .int .i64 t149, .int .i64 t150, .int .i64 t151, .int .i64 t152, .bool false, .int .i64 x142009_2]) ?_ 8 _ rfl; (with_reducible repeat (first | refine blk_drewN ?_ _ | refine blk_drew ?_ | refine blk_alloc ?_ _)); refine blk_put (cs := #[.int .i64 t145, .int .i64 t146, .int .i64 t147, .int .i64 t148, .int .i64 t149, .int .i64 t150, .int .i64 t151, .int .i64 x142007_2, .bool false, .int .i64 x142009_2]) ?_ 7 _ rfl; (with_reducible repeat (first | refine blk_drewN ?_ _ | refine blk_drew ?_ | refine blk_alloc ?_ _)); refine blk_put (cs := #[.int .i64 t145, .int .i64 t146, .int .i64 t147, .int .i64 t148, .int .i64 t149, .int .i64 t150, .int .i64 x142006_2, .int .i64 x142007_2, .bool false, .int .i64 x142009_2]) ?_ 6 _ rfl; (with_reducible repeat (first | refine blk_drewN ?_ _ | refine blk_drew ?_ | refine blk_alloc ?_ _)); refine blk_put (cs := #[.int .i64 t145, .int .i64 t146, .int .i64 t147, .int .i64 t148, .int .i64 t149, .int .i64 x142005_2, .int .i64 x142006_2, .int .i64 x142007_2, .bool false, .int .i64 x142009_2]) ?_ 5 _ rfl; (with_reducible repeat (first | refine blk_drewN ?_ _ | refine blk_drew ?_ | refine blk_alloc ?_ _)); refine blk_put (cs := #[.int .i64 t145, .int .i64 t146, .int .i64 t147, .int .i64 t148, .int .i64 x142004_2, .int .i64 x142005_2, .int .i64 x142006_2, .int .i64 x142007_2, .bool false, .int .i64 x142009_2]) ?_ 4 _ rfl; (with_reducible repeat (first | refine blk_drewN ?_ _ | refine blk_drew ?_ | refine blk_alloc ?_ _)); refine blk_put (cs := #[.int .i64 t145, .int .i64 t146, .int .i64 t147, .int .i64 x142003_2, .int .i64 x142004_2, .int .i64 x142005_2, .int .i64 x142006_2, .int .i64 x142007_2, .bool false, .int .i64 x142009_2]) ?_ 3 _ rfl; (with_reducible repeat (first | refine blk_drewN ?_ _ | refine blk_drew ?_ | refine blk_alloc ?_ _)); refine blk_put (cs := #[.int .i64 t145, .int .i64 t146, .int .i64 x142002_2, .int .i64 x142003_2, .int .i64 x142004_2, .int .i64 x142005_2, .int .i64 x142006_2, .int .i64 x142007_2, .bool false, .int .i64 x142009_2]) ?_ 2 _ rfl; (with_reducible repeat (first | refine blk_drewN ?_ _ | refine blk_drew ?_ | refine blk_alloc ?_ _)); refine blk_put (cs := #[.int .i64 t145, .int .i64 x142001_2, .int .i64 x142002_2, .int .i64 x142003_2, .int .i64 x142004_2, .int .i64 x142005_2, .int .i64 x142006_2, .int .i64 x142007_2, .bool false, .int .i64 x142009_2]) ?_ 1 _ rfl; (with_reducible repeat (first | refine blk_drewN ?_ _ | refine blk_drew ?_ | refine blk_alloc ?_ _)); refine blk_put (cs := #[.int .i64 x142000_2, .int .i64 x142001_2, .int .i64 x142002_2, .int .i64 x142003_2, .int .i64 x142004_2, .int .i64 x142005_2, .int .i64 x142006_2, .int .i64 x142007_2, .bool false, .int .i64 x142009_2]) ?_ 0 _ rfl; (with_reducible repeat (first | refine blk_drewN ?_ _ | refine blk_drew ?_ | refine blk_alloc ?_ _)); refine blk_far ?_ NB141_155.out _; (with_reducible repeat (first | refine blk_drewN ?_ _ | refine blk_drew ?_ | refine blk_alloc ?_ _)); refine blk_far ?_ NB141_155.out _; (with_reducible repeat (first | refine blk_drewN ?_ _ | refine blk_drew ?_ | refine blk_alloc ?_ _)); refine blk_far ?_ NB141_155.out _; (with_reducible repeat (first | refine blk_drewN ?_ _ | refine blk_drew ?_ | refine blk_alloc ?_ _)); refine blk_far ?_ NB141_155.out _; (with_reducible repeat (first | refine blk_drewN ?_ _ | refine blk_drew ?_ | refine blk_alloc ?_ _)); refine blk_far ?_ NB141_155.out _; (with_reducible repeat (first | refine blk_drewN ?_ _ | refine blk_drew ?_ | refine blk_alloc ?_ _)); refine blk_far ?_ NB141_155.out _; (with_reducible repeat (first | refine blk_drewN ?_ _ | refine blk_drew ?_ | refine blk_alloc ?_ _)); refine blk_far ?_ NB141_155.out _; (with_reducible repeat (first | refine blk_drewN ?_ _ | refine blk_drew ?_ | refine blk_alloc ?_ _)); refine blk_far ?_ NB141_155.out _; (with_reducible repeat (first | refine blk_drewN ?_ _ | refine blk_drew ?_ | refine blk_alloc ?_ _)); refine blk_far ?_ NB141_155.out _; (with_reducible repeat (first | refine blk_drewN ?_ _ | refine blk_drew ?_ | refine blk_alloc ?_ _)); refine blk_far ?_ NB141_155.out _; (with_reducible repeat (first | refine blk_drewN ?_ _ | refine blk_drew ?_ | refine blk_alloc ?_ _)); refine blk_far ?_ NB141_155.out _; (with_reducible repeat (first | refine blk_drewN ?_ _ | refine blk_drew ?_ | refine blk_alloc ?_ _)); exact BK141.out⟩, ⟨by repeat (first | (with_reducible first | exact HB.out | apply below_alloc | apply pw_below_drewN | apply below_drew1 | refine below_set ?_ GE141.out | refine below_set ?_ GE155.out) | exact HB.out)⟩⟩
       ·
        rw [if_neg c14] at H
        have c14b0 : decide (x9_2 < 1000) = false := decide_eq_false c14
        clear c14
        have H' := Aside0.mk H
        clear H
        go_wp2
        go_roundg k2
        case measure => have := HK1.out; have := HK2.out; omega
        case rel => exact ⟨(x5_2), (wrap64 (x7_1 + 1)), (by first | rfl | (simp; done) | (simp [*]; done)), H', ⟨by have := HK1.out; have := HK2.out; omega⟩, ⟨by (with_reducible repeat (first | apply Kd.R_alloc | apply Kd.R_drewN | apply Kd.R_drew)); exact HO_5.out⟩, ⟨by (with_reducible repeat (first | apply Kd.R_alloc | apply Kd.R_drewN | apply Kd.R_drew)); exact HO_6.out⟩, ⟨by repeat (first | (with_reducible first | exact HB.out | apply below_alloc | apply pw_below_drewN | apply below_drew1 | refine below_set ?_ GE141.out) | exact HB.out)⟩⟩
    ·
     rw [if_neg c8] at H
     exact absurd H (by simp)
   ·
    rw [if_neg c7] at H
    have c7b0 : decide (x7_1 < (t126.length : Int)) = false := decide_eq_false c7
    clear c7
    obtain rfl := Option.some.inj H
    obtain ⟨Ao26, co26, eo26⟩ := Kd.R_slice HO_6.out
    subst eo26
    go_wp2
    go_ret
    exact ⟨_, by first | rfl | (simp [errW_none, errW_some] <;> rfl) | (simp [*, errW_none, errW_some] <;> rfl), by (with_reducible repeat (first | apply Kd.R_alloc | apply Kd.R_drewN | apply Kd.R_drew)); exact HO_5.out, by repeat (first | (with_reducible first | exact HB.out | apply below_alloc | apply pw_below_drewN | apply below_drew1) | exact HB.out)⟩

/-! ### warpref1_Ints: function 18 -/
def warpref1_Ints.l0 : Nat → List Int → List Int → Int → Option (Bool)
 | 0, _, _, _ => none
 | k + 1, x0, x1, x5 => if x5 < (x0.length : Int) then (if 0 ≤ x5 then (if x5 < (x1.length : Int) then (if (rd x0 x5) = (rd x1 x5) then (warpref1_Ints.l0 k x0 x1 (wrap64 (x5 + 1))) else (some false)) else (none)) else (none)) else (some true)
def warpref1_Ints.f (k : Nat) (l0 : List Int) (l1 : List Int) : Option (Bool) := if (l0.length : Int) = (l1.length : Int) then (warpref1_Ints.l0 k l0 l1 0) else (some false)
theorem warpref1_Ints.mono_l : ∀ k, (∀ y0 y1 y2, LeO (warpref1_Ints.l0 k y0 y1 y2) (warpref1_Ints.l0 (k + 1) y0 y1 y2))
 | 0 => fun _ _ _ r h => by simp [warpref1_Ints.l0] at h
 | k + 1 => by
  have ih0 := warpref1_Ints.mono_l k
  ·
   intro y0 y1 y2
   unfold warpref1_Ints.l0
   repeat' first
   | (with_reducible exact ih0 _ _ _)
   | (with_reducible exact LeO.refl _)
   | (with_reducible exact LeO.none _)
   | (with_reducible refine LeO.ite ?_ ?_)
   | (with_reducible refine LeO.bind ?_ (fun _ => ?_))
   | exact ih0 _ _ _
   | exact LeO.none _
   | refine LeO.ite ?_ ?_
   | refine LeO.bind ?_ (fun _ => ?_)
theorem warpref1_Ints.mono : ∀ a0 a1 k, LeO (warpref1_Ints.f k a0 a1) (warpref1_Ints.f (k + 1) a0 a1) := by
 intro a0 a1 k
 have ih0 := warpref1_Ints.mono_l k
 unfold warpref1_Ints.f
 repeat' first
  | (with_reducible exact ih0 _ _ _)
  | (with_reducible exact LeO.refl _)
  | (with_reducible exact LeO.none _)
  | (with_reducible refine LeO.ite ?_ ?_)
  | (with_reducible refine LeO.bind ?_ (fun _ => ?_))
  | exact ih0 _ _ _
  | exact LeO.none _
  | refine LeO.ite ?_ ?_
  | refine LeO.bind ?_ (fun _ => ?_)
set_option maxHeartbeats 8000000 in
set_option maxRecDepth 100000 in
theorem warpref1_Ints.calls (k : Nat) (A0 : Option Addr) (c0 : Nat) (l0 : List Int) (A1 : Option Addr) (c1 : Nat) (l1 : List Int) (r : Bool) (w : World) (hr0 : Kd.C (Kd.int .i64) w A0 l0.length l0) (hc0 : l0.length ≤ c0) (hr1 : Kd.C (Kd.int .i64) w A1 l1.length l1) (hc1 : l1.length ≤ c1) (h : warpref1_Ints.f k l0 l1 = some r) :
 Calls Try.prog 18 #[.slice A0 l0.length c0, .slice A1 l1.length c1] w fun e w' => e = .returned (.bool r) ∧ Drawn0 w w' := by
 have HR0 := Aside0.mk hr0
 have HC0 := Aside0.mk hc0
 clear hr0 hc0
 have HR1 := Aside0.mk hr1
 have HC1 := Aside0.mk hc1
 clear hr1 hc1
 have H : (if (l0.length : Int) = (l1.length : Int) then (warpref1_Ints.l0 k l0 l1 0) else (some false)) = some r := h
 clear h
 by_cases c3 : (l0.length : Int) = (l1.length : Int)
 ·
  rw [if_pos c3] at H
  have c3b0 : ((l0.length : Int) == (l1.length : Int)) = true := beq_iff_eq.mpr c3
  have c3b1 : ((l0.length : Int) != (l1.length : Int)) = false := bne_eq_false_iff_eq.mpr c3
  have c3b2 : (l0.length == l1.length) = true := by first | simpa using c3 | (simp at c3 ⊢; omega)
  clear c3
  have H' := Aside0.mk H
  clear H
  go_enter Try.func18, Try.ntmps18
  go_wp2
  repeat (go_quiet (fail); try go_wp2)
  go_loopg [5] k (fun kq v5 w' => ∃ (x5_1 : Int), v5 = .int .i64 x5_1 ∧ Aside0 (warpref1_Ints.l0 kq l0 l1 x5_1 = some r) ∧ Aside0 (kq ≤ k) ∧ Drawn0 w w')
  case atStart => exact ⟨(0), (by first | rfl | (simp; done) | (simp [*]; done)), H', ⟨Nat.le_refl _⟩, by repeat (first | exact Drawn0.refl _ | apply Drawn0.step)⟩
  case round =>
   clear H'
   (try clear c1); (try clear p2); (try clear c3); (try clear c3b0); (try clear c3b1); (try clear c3b2)
   obtain ⟨x5_1, rfl, HA, HK1, ⟨m1, rfl⟩⟩ := hrel
   cases gk with
   | zero => exact absurd HA.out (by simp [warpref1_Ints.l0])
   | succ k1 =>
    have H := HA.out
    clear HA
    simp only [warpref1_Ints.l0] at H
    by_cases c4 : x5_1 < (l0.length : Int)
    ·
     rw [if_pos c4] at H
     have c4b0 : decide (x5_1 < (l0.length : Int)) = true := decide_eq_true c4
     clear c4
     by_cases c5 : 0 ≤ x5_1
     ·
      rw [if_pos c5] at H
      have c5b0 : decide (0 ≤ x5_1) = true := decide_eq_true c5
      clear c5
      by_cases c6 : x5_1 < (l1.length : Int)
      ·
       rw [if_pos c6] at H
       have c6b0 : decide (x5_1 < (l1.length : Int)) = true := decide_eq_true c6
       clear c6
       by_cases c7 : (rd l0 x5_1) = (rd l1 x5_1)
       ·
        rw [if_pos c7] at H
        have c7b0 : ((rd l0 x5_1) == (rd l1 x5_1)) = true := beq_iff_eq.mpr c7
        have c7b1 : ((rd l0 x5_1) != (rd l1 x5_1)) = false := bne_eq_false_iff_eq.mpr c7
        clear c7
        have H' := Aside0.mk H
        clear H
        have p156 : 0 ≤ (x5_1 : Int) := of_decide_eq_true (by first | (with_reducible assumption) | assumption)
        have q156 : x5_1 < (l0.length : Int) := of_decide_eq_true (by first | (with_reducible assumption) | assumption)
        obtain ⟨ad156, e156, hx156_0⟩ := Kd.at_int HR0.out x5_1 p156 q156
        cases e156
        replace p156 := eq_true p156
        replace q156 := eq_true q156
        have p157 : 0 ≤ (x5_1 : Int) := of_decide_eq_true (by first | (with_reducible assumption) | assumption)
        have q157 : x5_1 < (l1.length : Int) := of_decide_eq_true (by first | (with_reducible assumption) | assumption)
        obtain ⟨ad157, e157, hx157_0⟩ := Kd.at_int HR1.out x5_1 p157 q157
        cases e157
        replace p157 := eq_true p157
        replace q157 := eq_true q157
        go_wp2
        repeat (go_quiet (fail); try go_wp2)
        go_roundg k1
        case measure => have := HK1.out; omega
        case rel => exact ⟨(wrap64 (x5_1 + 1)), (by first | rfl | (simp; done) | (simp [*]; done)), H', ⟨by have := HK1.out; omega⟩, by repeat (first | exact Drawn0.refl _ | apply Drawn0.step)⟩
       ·
        rw [if_neg c7] at H
        have c7b0 : ((rd l0 x5_1) == (rd l1 x5_1)) = false := beq_eq_false_iff_ne.mpr c7
        have c7b1 : ((rd l0 x5_1) != (rd l1 x5_1)) = true := bne_iff_ne.mpr c7
        obtain rfl := Option.some.inj H
        have p156 : 0 ≤ (x5_1 : Int) := of_decide_eq_true (by first | (with_reducible assumption) | assumption)
        have q156 : x5_1 < (l0.length : Int) := of_decide_eq_true (by first | (with_reducible assumption) | assumption)
        obtain ⟨ad156, e156, hx156_0⟩ := Kd.at_int HR0.out x5_1 p156 q156
        cases e156
        replace p156 := eq_true p156
        replace q156 := eq_true q156
        have p157 : 0 ≤ (x5_1 : Int) := of_decide_eq_true (by first | (with_reducible assumption) | assumption)
        have q157 : x5_1 < (l1.length : Int) := of_decide_eq_true (by first | (with_reducible assumption) | assumption)
        obtain ⟨ad157, e157, hx157_0⟩ := Kd.at_int HR1.out x5_1 p157 q157
        cases e157
        replace p157 := eq_true p157
        replace q157 := eq_true q157
        go_wp2
        repeat (go_quiet (fail); try go_wp2)
        go_ret
        exact ⟨by first | rfl | (simp; done) | (simp [*]; done), by repeat (first | exact Drawn0.refl _ | apply Drawn0.step)⟩
      ·
       rw [if_neg c6] at H
       exact absurd H (by simp)
     ·
      rw [if_neg c5] at H
      exact absurd H (by simp)
    ·
     rw [if_neg c4] at H
     have c4b0 : decide (x5_1 < (l0.length : Int)) = false := decide_eq_false c4
     clear c4
     obtain rfl := Option.some.inj H
     go_wp2
     repeat (go_quiet (fail); try go_wp2)
     go_ret
     exact ⟨by first | rfl | (simp; done) | (simp [*]; done), by repeat (first | exact Drawn0.refl _ | apply Drawn0.step)⟩
 ·
  rw [if_neg c3] at H
  have c3b0 : ((l0.length : Int) == (l1.length : Int)) = false := beq_eq_false_iff_ne.mpr c3
  have c3b1 : ((l0.length : Int) != (l1.length : Int)) = true := bne_iff_ne.mpr c3
  have c3b2 : (l0.length == l1.length) = false := by first | simpa using c3 | (simp at c3 ⊢; omega)
  obtain rfl := Option.some.inj H
  go_enter Try.func18, Try.ntmps18
  go_wp2
  repeat (go_quiet (fail); try go_wp2)
  go_ret
  exact ⟨by first | rfl | (simp; done) | (simp [*]; done), by repeat (first | exact Drawn0.refl _ | apply Drawn0.step)⟩

end Go.Proofs.Ytcppmfmlafnmfaa.P
