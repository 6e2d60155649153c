/-
The plain Lean functions of Go functions of this seat, and proofs that the calls of the machine come to them; no condition beside those named in each theorem.
-/
import Derived.Test.YtmaiicpaalbcfaaDoorPx0
import Derived.Test.YtmaiicpaalbcfaaDoorStubC
namespace Go.Proofs.YtmaiicpaalbcfaaDoor.P
open Go.RowKit Go.Proofs.YtmaiicpaalbcfaaDoorW.PrintWords Go.Proofs.YtmaiicpaalbcfaaDoorW.PrintLast Go.Proofs.YtmaiicpaalbcfaaDoorW.PrintMore
attribute [local go_sem] max2_int min2_int max_two min_two max_three min_three max_four min_four   -- for this text's walks alone
set_option linter.unusedVariables false
set_option linter.unusedSimpArgs false

/-! ### play_start: function 22 -/
mutual
def play_start.l0 : Nat → Int → List (List (S40)) → List (S65) → Int → List (List (S40)) → Int → Int → Option ((List (S65)) × Bool)
 | 0, _, _, _, _, _, _, _ => none
 | k + 1, x0, x1, x6, x7, x17, x18, x19 => if x19 < x18 then (if 0 ≤ x19 then (if x19 < (x17.length : Int) then (play_start.l1 k x0 x1 x6 (wrap64 (x7 + ((rd_L2 x17 x19).length : Int))) x19 x17 x18 x19 (rd_L2 x17 x19) ((rd_L2 x17 x19).length : Int) 0) else (none)) else (none)) else (if x0 ≤ 4096 then (if (x1.length : Int) ≤ 64 then (some (x6, decide (x7 ≤ 4096))) else (some (x6, false))) else (some (x6, false)))
def play_start.l1 : Nat → Int → List (List (S40)) → List (S65) → Int → Int → List (List (S40)) → Int → Int → List (S40) → Int → Int → Option ((List (S65)) × Bool)
 | 0, _, _, _, _, _, _, _, _, _, _, _ => none
 | k + 1, x0, x1, x6, x7, x8, x17, x18, x19, x28, x29, x30 => if x30 < x29 then (if 0 ≤ x30 then (if x30 < (x28.length : Int) then ((cuf_Begin.f ((rd_T40 x28 x30).f0) ((rd_T40 x28 x30).f1) ((rd_T40 x28 x30).f2) x0).bind fun bt532 => (if bt532.2.2.2.2.2.2.2.2.2.2 = true then (if 0 ≤ x8 then (if x8 < (x6.length : Int) then (if ((rd_T65 x6 x8).f0).length < 5864062014805 then (play_start.l1 k x0 x1 (x6.set (x8 : Int).toNat (⟨(((rd_T65 x6 x8).f0) ++ [(⟨(rd_T40 x28 x30).f0, (rd_T40 x28 x30).f1, (rd_T40 x28 x30).f2⟩ : S40)]), (⟨(⟨(rd_T65 x6 x8).f1.f0.f0, (rd_T65 x6 x8).f1.f0.f1, (rd_T65 x6 x8).f1.f0.f2⟩ : S40), (rd_T65 x6 x8).f1.f1, (rd_T65 x6 x8).f1.f2, (rd_T65 x6 x8).f1.f3, (rd_T65 x6 x8).f1.f4, (rd_T65 x6 x8).f1.f5, (rd_T65 x6 x8).f1.f6, (rd_T65 x6 x8).f1.f7⟩ : S63), (rd_T65 x6 x8).f2, (rd_T65 x6 x8).f3, (rd_T65 x6 x8).f4⟩ : S65)) x7 x8 x17 x18 x19 x28 x29 (wrap64 (x30 + 1))) else (none)) else (none)) else (none)) else (play_start.l1 k x0 x1 x6 x7 x8 x17 x18 x19 x28 x29 (wrap64 (x30 + 1))))) else (none)) else (none)) else (play_start.l0 k x0 x1 x6 x7 x17 x18 (wrap64 (x19 + 1)))
end
def play_start.f (k : Nat) (a0 : Int) (l1 : List (List (S40))) : Option ((List (S65)) × Bool) := if 0 ≤ (l1.length : Int) then (if ((l1.length : Int) : Int).toNat ≤ 2199023255552 then (play_start.l0 k a0 l1 (List.replicate ((l1.length : Int) : Int).toNat z65) 0 l1 (l1.length : Int) 0) else (none)) else (none)
theorem play_start.mono_l : ∀ k, (∀ y0 y1 y2 y3 y4 y5 y6, LeO (play_start.l0 k y0 y1 y2 y3 y4 y5 y6) (play_start.l0 (k + 1) y0 y1 y2 y3 y4 y5 y6)) ∧ (∀ y0 y1 y2 y3 y4 y5 y6 y7 y8 y9 y10, LeO (play_start.l1 k y0 y1 y2 y3 y4 y5 y6 y7 y8 y9 y10) (play_start.l1 (k + 1) y0 y1 y2 y3 y4 y5 y6 y7 y8 y9 y10))
 | 0 => ⟨fun _ _ _ _ _ _ _ r h => by simp [play_start.l0] at h, fun _ _ _ _ _ _ _ _ _ _ _ r h => by simp [play_start.l1] at h⟩
 | k + 1 => by
  obtain ⟨ih0, ih1⟩ := play_start.mono_l k
  refine ⟨?_, ?_⟩
  ·
   intro y0 y1 y2 y3 y4 y5 y6
   unfold play_start.l0
   repeat' first
   | (with_reducible exact ih0 _ _ _ _ _ _ _)
   | (with_reducible exact ih1 _ _ _ _ _ _ _ _ _ _ _)
   | (with_reducible exact LeO.refl _)
   | (with_reducible exact LeO.none _)
   | (with_reducible refine LeO.ite ?_ ?_)
   | (with_reducible refine LeO.bind ?_ (fun _ => ?_))
   | exact ih0 _ _ _ _ _ _ _
   | exact ih1 _ _ _ _ _ _ _ _ _ _ _
   | exact LeO.none _
   | refine LeO.ite ?_ ?_
   | refine LeO.bind ?_ (fun _ => ?_)
  ·
   intro y0 y1 y2 y3 y4 y5 y6 y7 y8 y9 y10
   unfold play_start.l1
   repeat' first
   | (with_reducible exact ih0 _ _ _ _ _ _ _)
   | (with_reducible exact ih1 _ _ _ _ _ _ _ _ _ _ _)
   | (with_reducible exact LeO.refl _)
   | (with_reducible exact LeO.none _)
   | (with_reducible refine LeO.ite ?_ ?_)
   | (with_reducible refine LeO.bind ?_ (fun _ => ?_))
   | exact ih0 _ _ _ _ _ _ _
   | exact ih1 _ _ _ _ _ _ _ _ _ _ _
   | exact LeO.none _
   | refine LeO.ite ?_ ?_
   | refine LeO.bind ?_ (fun _ => ?_)
theorem play_start.mono : ∀ a0 a1 k, LeO (play_start.f k a0 a1) (play_start.f (k + 1) a0 a1) := by
 intro a0 a1 k
 obtain ⟨ih0, ih1⟩ := play_start.mono_l k
 unfold play_start.f
 repeat' first
  | (with_reducible exact ih0 _ _ _ _ _ _ _)
  | (with_reducible exact ih1 _ _ _ _ _ _ _ _ _ _ _)
  | (with_reducible exact LeO.refl _)
  | (with_reducible exact LeO.none _)
  | (with_reducible refine LeO.ite ?_ ?_)
  | (with_reducible refine LeO.bind ?_ (fun _ => ?_))
  | exact ih0 _ _ _ _ _ _ _
  | exact ih1 _ _ _ _ _ _ _ _ _ _ _
  | exact LeO.none _
  | refine LeO.ite ?_ ?_
  | refine LeO.bind ?_ (fun _ => ?_)
def play_start.T12 : Bool × List (List Nat × List Nat) := (true, [([], []), ([], []), ([], []), ([], []), ([2, 3], [2, 3]), ([4], [4]), ([5], [5]), ([], []), ([7], [7]), ([6, 8], [6, 8]), ([0, 1, 0, 1, 2, 3, 4, 5, 6, 7, 8, 9], [0, 1]), ([10, 0, 1, 2, 3, 4, 5, 6, 7, 8, 9], [10]), ([11, 9, 9, 0, 1, 2, 3, 4, 5, 6, 7, 8, 9], [9, 11])])
def play_start.B12 : List Nat := [0, 0, 0, 0, 12, 28, 60, 0, 128, 508, 1023, 2047, 4095]
theorem play_start.tab12 : rtab .any (opsOf Tryd.f22 12) = play_start.T12 := by kernel_rfl
theorem play_start.bits12 : waitsOk play_start.T12.2 play_start.B12 = true := by kernel_rfl
set_option maxHeartbeats 8000000 in
set_option maxRecDepth 100000 in
theorem play_start.calls (k : Nat) (a0 : Int) (A1 : Option Addr) (c1 : Nat) (l1 : List (List (S40))) (r1 : List (S65)) (r2 : Bool) (w : World) (hr1 : Kd.C (Kd.slice 40 k40) w A1 l1.length l1) (hc1 : l1.length ≤ c1) (h : play_start.f k a0 l1 = some (r1, r2)) :
 Calls Tryd.prog 22 #[.int .i64 a0, .slice A1 l1.length c1] w fun e w' => ∃ v0_ : Value, e = .returned (.tuple #[v0_, .bool r2]) ∧ Kd.S k65 65 w' w.heap.size (fun _ => True) v0_ r1 ∧ Below w.heap.size w w' := by
 have hu40 := Tryd.underlying40
 have hu63 := Tryd.underlying63
 have HR1 := Aside0.mk hr1
 have HC1 := Aside0.mk hc1
 clear hr1 hc1
 have HB := Aside0.mk (Below.refl w.heap.size w)
 have H : (if 0 ≤ (l1.length : Int) then (if ((l1.length : Int) : Int).toNat ≤ 2199023255552 then (play_start.l0 k a0 l1 (List.replicate ((l1.length : Int) : Int).toNat z65) 0 l1 (l1.length : Int) 0) else (none)) else (none)) = some (r1, r2) := h
 clear h
 by_cases c3 : 0 ≤ (l1.length : Int)
 ·
  rw [if_pos c3] at H
  have c3b0 := eq_true c3
  have c3b1 : decide (0 ≤ (l1.length : Int)) = true := decide_eq_true c3
  clear c3
  by_cases c4 : ((l1.length : Int) : Int).toNat ≤ 2199023255552
  ·
   rw [if_pos c4] at H
   have c4b0 := eq_true c4
   have c4b1 : decide (((l1.length : Int) : Int).toNat ≤ 2199023255552) = true := decide_eq_true c4
   clear c4
   obtain ⟨y526, hy526⟩ : ∃ y_ : List (S65), y_ = (List.replicate ((l1.length : Int) : Int).toNat z65) := ⟨_, rfl⟩
   replace H : (play_start.l0 k a0 l1 y526 0 l1 (l1.length : Int) 0) = some (r1, r2) := by first | (rw [hy526]; with_reducible exact H) | (have H2_ := (Option.bind_some _ _).symm.trans H; rw [hy526]; with_reducible exact H2_) | (have H2_ := (Option.bind_some _ _).symm.trans H; with_reducible exact H2_) | with_reducible exact H | (rw [hy526]; exact H) | exact H
   have Ny526 := Aside0.mk hy526
   clear hy526
   have H' := Aside0.mk H
   clear H
   go_enter Tryd.func22, Tryd.ntmps22
   go_wp2_with (first | ((with_reducible refine gate_dst (N := 16) rfl ?_); (try (refine gate_guard (by rfl) ?_; dsimp only)); refine Kd.S_make k65 _ 65 rfl (N := 16) rfl 54 _ _ rfl (l1.length : Int) rfl rfl Tryd.underlying54 (.agg #[(.slice none 0 0), (.int .i64 0), (.int .i64 0), (.int .i64 0), (.int .i64 0), (.int .i64 0), (.int .i64 0), (.int .i64 0), (.int .i64 0), (.bool false), (.int .i64 0), (.bool false), (.int .i64 0), (.int .i64 0)]) 128 info65 rfl (by decide) (by omega) z65 (ok := fun _ => True) (okp := fun _ => True) (k65_mkM _ _ _ z65 (Kd.R_nil _ _ _ _ _)) (fun _ hk => hk) trivial (of_decide_eq_true (by first | (with_reducible assumption) | assumption)) (Nat.le_trans (Nat.mul_le_mul_right _ (of_decide_eq_true (by first | (with_reducible assumption) | assumption) : (l1.length : Int).toNat ≤ 2199023255552)) (by omega)) (Below.refl _ _) (Nat.le_refl _) ?_; intro v527 w5 ho6 hb hg_ hnew_; clear hg_ hnew_; (first | rw [← Ny526.out] at ho6 | (simp only [Int.reduceToNat] at ho6; rw [← Ny526.out] at ho6)); have n0_ := Aside0.mk (Kd.S_lower ho6 (below_size (by repeat (first | (with_reducible first | exact HB.out | apply below_alloc | apply pw_below_drewN | apply below_drew1) | exact HB.out)))); have n1_ := Aside0.mk (below_step (by repeat (first | (with_reducible first | exact HB.out | apply below_alloc | apply pw_below_drewN | apply below_drew1) | exact HB.out)) hb); clear HB; have HO528 := n0_; have HB := n1_; clear n0_ n1_; clear hb ho6))
   go_loopg [7, 19] k (fun kq v7 v19 w' => ∃ (x6_1 : List (S65)) (x7_1 : Int) (x19_1 : Int), v7 = .int .i64 x7_1 ∧ v19 = .int .i64 x19_1 ∧ Aside0 (play_start.l0 kq a0 l1 x6_1 x7_1 l1 (l1.length : Int) x19_1 = some (r1, r2)) ∧ Aside0 (kq ≤ k) ∧ Aside0 (Kd.S k65 65 w' w.heap.size (fun _ => True) v527 x6_1) ∧ Aside0 (Below w.heap.size w w'))
   case atStart => exact ⟨(y526), (0), (0), (by first | rfl | (simp; done) | (simp [*]; done)), (by first | rfl | (simp; done) | (simp [*]; done)), H', ⟨Nat.le_refl _⟩, ⟨by (with_reducible repeat (first | apply Kd.S_alloc | apply Kd.S_drewN | apply Kd.S_drew)); exact HO528.out⟩, ⟨by repeat (first | (with_reducible first | exact HB.out | apply below_alloc | apply pw_below_drewN | apply below_drew1) | exact HB.out)⟩⟩
   case round =>
    clear H'
    (try clear c1); (try clear c2); (try clear p2); (try clear c3); (try clear c3b0); (try clear c3b1); (try clear c4); (try clear c4b0); (try clear c4b1)
    obtain ⟨x6_1, x7_1, x19_1, rfl, rfl, HA, HK1, HO_6, HB⟩ := hrel
    cases gk with
    | zero => exact absurd HA.out (by simp [play_start.l0])
    | succ k1 =>
     have H := HA.out
     clear HA
     simp only [play_start.l0] at H
     by_cases c7 : x19_1 < (l1.length : Int)
     ·
      rw [if_pos c7] at H
      have c7b0 : decide (x19_1 < (l1.length : Int)) = true := decide_eq_true c7
      clear c7
      by_cases c8 : 0 ≤ x19_1
      ·
       rw [if_pos c8] at H
       have c8b0 : decide (0 ≤ x19_1) = true := decide_eq_true c8
       clear c8
       by_cases c9 : x19_1 < (l1.length : Int)
       ·
        rw [if_pos c9] at H
        have c9b0 : decide (x19_1 < (l1.length : Int)) = true := decide_eq_true c9
        clear c9
        have H' := Aside0.mk H
        clear H
        have p529 : 0 ≤ (x19_1 : Int) := of_decide_eq_true (by first | (with_reducible assumption) | assumption)
        have q529 : x19_1 < (l1.length : Int) := of_decide_eq_true (by first | (with_reducible assumption) | assumption)
        obtain ⟨ad529, A529_0, c529_0, e529, hx529_0, hl529_0, hi529_0⟩ := at_L2 HR1.out x19_1 p529 q529
        cases e529
        replace hx529_0 := (HB.out.cell (World.block_lt_of_cell? w _ hx529_0)).trans hx529_0
        have HR529_0 := Aside0.mk hi529_0
        have HC529_0 := Aside0.mk hl529_0
        clear hi529_0 hl529_0
        replace p529 := eq_true p529
        replace q529 := eq_true q529
        go_wp2
        go_loopg [30] k1 (fun kq v30 w' => ∃ (x6_2 : List (S65)) (x30_2 : Int), v30 = .int .i64 x30_2 ∧ Aside0 (play_start.l1 kq a0 l1 x6_2 (wrap64 (x7_1 + ((rd_L2 l1 x19_1).length : Int))) x19_1 l1 (l1.length : Int) x19_1 (rd_L2 l1 x19_1) ((rd_L2 l1 x19_1).length : Int) x30_2 = some (r1, r2)) ∧ Aside0 (kq ≤ k1) ∧ Aside0 (Kd.S k65 65 w' w.heap.size (fun _ => True) v527 x6_2) ∧ Aside0 (Below w.heap.size w w'))
        case atStart => exact ⟨(x6_1), (0), (by first | rfl | (simp; done) | (simp [*]; done)), H', ⟨Nat.le_refl _⟩, ⟨by (with_reducible repeat (first | apply Kd.S_alloc | apply Kd.S_drewN | apply Kd.S_drew)); exact HO_6.out⟩, ⟨by repeat (first | (with_reducible first | exact HB.out | apply below_alloc | apply pw_below_drewN | apply below_drew1) | exact HB.out)⟩⟩
        case round =>
         clear H'
         (try clear c1); (try clear c2); (try clear p2); (try clear c3); (try clear c3b0); (try clear c3b1); (try clear c4); (try clear c4b0); (try clear c4b1); (try clear c5); (try clear p5); (try clear q5); (try clear hx5); (try clear p6); (try clear c7); (try clear c7b0); (try clear c8); (try clear c8b0); (try clear c9); (try clear c9b0); (try clear hx529_0); (try clear p2); (try clear p529); (try clear q529)
         obtain ⟨x6_2, x30_2, rfl, HA, HK2, HO_6, HB⟩ := hrel
         cases gk with
         | zero => exact absurd HA.out (by simp [play_start.l1])
         | succ k2 =>
          have H := HA.out
          clear HA
          simp only [play_start.l1] at H
          by_cases c10 : x30_2 < ((rd_L2 l1 x19_1).length : Int)
          ·
           rw [if_pos c10] at H
           have c10b0 : decide (x30_2 < ((rd_L2 l1 x19_1).length : Int)) = true := decide_eq_true c10
           clear c10
           by_cases c11 : 0 ≤ x30_2
           ·
            rw [if_pos c11] at H
            have c11b0 : decide (0 ≤ x30_2) = true := decide_eq_true c11
            clear c11
            by_cases c12 : x30_2 < ((rd_L2 l1 x19_1).length : Int)
            ·
             rw [if_pos c12] at H
             have c12b0 : decide (x30_2 < ((rd_L2 l1 x19_1).length : Int)) = true := decide_eq_true c12
             clear c12
             replace H := Option.bind_eq_some_iff.mp H
             obtain ⟨⟨t532, t533, t534, t535, t536, t537, t538, t539, t540, t541, t542⟩, A130, H⟩ := H
             replace H : (if t542 = true then (if 0 ≤ x19_1 then (if x19_1 < (x6_2.length : Int) then (if ((rd_T65 x6_2 x19_1).f0).length < 5864062014805 then (play_start.l1 k2 a0 l1 (x6_2.set (x19_1 : Int).toNat (⟨(((rd_T65 x6_2 x19_1).f0) ++ [(⟨(rd_T40 (rd_L2 l1 x19_1) x30_2).f0, (rd_T40 (rd_L2 l1 x19_1) x30_2).f1, (rd_T40 (rd_L2 l1 x19_1) x30_2).f2⟩ : S40)]), (⟨(⟨(rd_T65 x6_2 x19_1).f1.f0.f0, (rd_T65 x6_2 x19_1).f1.f0.f1, (rd_T65 x6_2 x19_1).f1.f0.f2⟩ : S40), (rd_T65 x6_2 x19_1).f1.f1, (rd_T65 x6_2 x19_1).f1.f2, (rd_T65 x6_2 x19_1).f1.f3, (rd_T65 x6_2 x19_1).f1.f4, (rd_T65 x6_2 x19_1).f1.f5, (rd_T65 x6_2 x19_1).f1.f6, (rd_T65 x6_2 x19_1).f1.f7⟩ : S63), (rd_T65 x6_2 x19_1).f2, (rd_T65 x6_2 x19_1).f3, (rd_T65 x6_2 x19_1).f4⟩ : S65)) (wrap64 (x7_1 + ((rd_L2 l1 x19_1).length : Int))) x19_1 l1 (l1.length : Int) x19_1 (rd_L2 l1 x19_1) ((rd_L2 l1 x19_1).length : Int) (wrap64 (x30_2 + 1))) else (none)) else (none)) else (none)) else (play_start.l1 k2 a0 l1 x6_2 (wrap64 (x7_1 + ((rd_L2 l1 x19_1).length : Int))) x19_1 l1 (l1.length : Int) x19_1 (rd_L2 l1 x19_1) ((rd_L2 l1 x19_1).length : Int) (wrap64 (x30_2 + 1)))) = some (r1, r2) := H
             have A13 := Aside0.mk A130
             clear A130
             by_cases c14 : t542 = true
             ·
              subst c14
              have H1 : (if 0 ≤ x19_1 then (if x19_1 < (x6_2.length : Int) then (if ((rd_T65 x6_2 x19_1).f0).length < 5864062014805 then (play_start.l1 k2 a0 l1 (x6_2.set (x19_1 : Int).toNat (⟨(((rd_T65 x6_2 x19_1).f0) ++ [(⟨(rd_T40 (rd_L2 l1 x19_1) x30_2).f0, (rd_T40 (rd_L2 l1 x19_1) x30_2).f1, (rd_T40 (rd_L2 l1 x19_1) x30_2).f2⟩ : S40)]), (⟨(⟨(rd_T65 x6_2 x19_1).f1.f0.f0, (rd_T65 x6_2 x19_1).f1.f0.f1, (rd_T65 x6_2 x19_1).f1.f0.f2⟩ : S40), (rd_T65 x6_2 x19_1).f1.f1, (rd_T65 x6_2 x19_1).f1.f2, (rd_T65 x6_2 x19_1).f1.f3, (rd_T65 x6_2 x19_1).f1.f4, (rd_T65 x6_2 x19_1).f1.f5, (rd_T65 x6_2 x19_1).f1.f6, (rd_T65 x6_2 x19_1).f1.f7⟩ : S63), (rd_T65 x6_2 x19_1).f2, (rd_T65 x6_2 x19_1).f3, (rd_T65 x6_2 x19_1).f4⟩ : S65)) (wrap64 (x7_1 + ((rd_L2 l1 x19_1).length : Int))) x19_1 l1 (l1.length : Int) x19_1 (rd_L2 l1 x19_1) ((rd_L2 l1 x19_1).length : Int) (wrap64 (x30_2 + 1))) else (none)) else (none)) else (none)) = some (r1, r2) := by rw [if_pos rfl] at H; exact H
              clear H
              have H := H1
              clear H1
              by_cases c15 : 0 ≤ x19_1
              ·
               rw [if_pos c15] at H
               have c15b0 : decide (0 ≤ x19_1) = true := decide_eq_true c15
               clear c15
               by_cases c16 : x19_1 < (x6_2.length : Int)
               ·
                rw [if_pos c16] at H
                have c16b0 : decide (x19_1 < (x6_2.length : Int)) = true := decide_eq_true c16
                clear c16
                by_cases c17 : ((rd_T65 x6_2 x19_1).f0).length < 5864062014805
                ·
                 rw [if_pos c17] at H
                 have LMc17 := Aside0.mk c17
                 clear c17
                 obtain ⟨y545, hy545⟩ : ∃ y_ : List (S40), y_ = (((rd_T65 x6_2 x19_1).f0) ++ [(⟨(rd_T40 (rd_L2 l1 x19_1) x30_2).f0, (rd_T40 (rd_L2 l1 x19_1) x30_2).f1, (rd_T40 (rd_L2 l1 x19_1) x30_2).f2⟩ : S40)]) := ⟨_, rfl⟩
                 replace H : (play_start.l1 k2 a0 l1 (x6_2.set (x19_1 : Int).toNat (⟨y545, (⟨(⟨(rd_T65 x6_2 x19_1).f1.f0.f0, (rd_T65 x6_2 x19_1).f1.f0.f1, (rd_T65 x6_2 x19_1).f1.f0.f2⟩ : S40), (rd_T65 x6_2 x19_1).f1.f1, (rd_T65 x6_2 x19_1).f1.f2, (rd_T65 x6_2 x19_1).f1.f3, (rd_T65 x6_2 x19_1).f1.f4, (rd_T65 x6_2 x19_1).f1.f5, (rd_T65 x6_2 x19_1).f1.f6, (rd_T65 x6_2 x19_1).f1.f7⟩ : S63), (rd_T65 x6_2 x19_1).f2, (rd_T65 x6_2 x19_1).f3, (rd_T65 x6_2 x19_1).f4⟩ : S65)) (wrap64 (x7_1 + ((rd_L2 l1 x19_1).length : Int))) x19_1 l1 (l1.length : Int) x19_1 (rd_L2 l1 x19_1) ((rd_L2 l1 x19_1).length : Int) (wrap64 (x30_2 + 1))) = some (r1, r2) := by first | (rw [hy545]; with_reducible exact H) | (have H2_ := (Option.bind_some _ _).symm.trans H; rw [hy545]; with_reducible exact H2_) | (have H2_ := (Option.bind_some _ _).symm.trans H; with_reducible exact H2_) | with_reducible exact H | (rw [hy545]; exact H) | exact H
                 have Ny545 := Aside0.mk hy545
                 clear hy545
                 obtain ⟨y548, hy548⟩ : ∃ y_ : List (S65), y_ = (x6_2.set (x19_1 : Int).toNat (⟨y545, (⟨(⟨(rd_T65 x6_2 x19_1).f1.f0.f0, (rd_T65 x6_2 x19_1).f1.f0.f1, (rd_T65 x6_2 x19_1).f1.f0.f2⟩ : S40), (rd_T65 x6_2 x19_1).f1.f1, (rd_T65 x6_2 x19_1).f1.f2, (rd_T65 x6_2 x19_1).f1.f3, (rd_T65 x6_2 x19_1).f1.f4, (rd_T65 x6_2 x19_1).f1.f5, (rd_T65 x6_2 x19_1).f1.f6, (rd_T65 x6_2 x19_1).f1.f7⟩ : S63), (rd_T65 x6_2 x19_1).f2, (rd_T65 x6_2 x19_1).f3, (rd_T65 x6_2 x19_1).f4⟩ : S65)) := ⟨_, rfl⟩
                 replace H : (play_start.l1 k2 a0 l1 y548 (wrap64 (x7_1 + ((rd_L2 l1 x19_1).length : Int))) x19_1 l1 (l1.length : Int) x19_1 (rd_L2 l1 x19_1) ((rd_L2 l1 x19_1).length : Int) (wrap64 (x30_2 + 1))) = some (r1, r2) := by first | (rw [hy548]; with_reducible exact H) | (have H2_ := (Option.bind_some _ _).symm.trans H; rw [hy548]; with_reducible exact H2_) | (have H2_ := (Option.bind_some _ _).symm.trans H; with_reducible exact H2_) | with_reducible exact H | (rw [hy548]; exact H) | exact H
                 have Ny548 := Aside0.mk hy548
                 clear hy548
                 have H' := Aside0.mk H
                 clear H
                 have p530 : 0 ≤ (x30_2 : Int) := of_decide_eq_true (by first | (with_reducible assumption) | assumption)
                 have q530 : x30_2 < ((rd_L2 l1 x19_1).length : Int) := of_decide_eq_true (by first | (with_reducible assumption) | assumption)
                 obtain ⟨ad530, e530, hx530_0, hx530_1, hx530_2⟩ := at_T40 HR529_0.out x30_2 p530 q530
                 cases e530
                 replace hx530_0 := (HB.out.cell (World.block_lt_of_cell? w _ hx530_0)).trans hx530_0
                 replace hx530_1 := (HB.out.cell (World.block_lt_of_cell? w _ hx530_1)).trans hx530_1
                 replace hx530_2 := (HB.out.cell (World.block_lt_of_cell? w _ hx530_2)).trans hx530_2
                 replace p530 := eq_true p530
                 replace q530 := eq_true q530
                 try go_wp2_with (first | ((with_reducible refine gate_dst (N := 11) rfl ?_); (try (refine gate_guard (by rfl) ?_; dsimp only)); refine box_event ?hg (N := 11) ?hd (cs := #[.int .i64 0, .int .i64 0, .int .i64 0]) (t := 40) ?hr ?_; (case hd => rfl); (case hg => rfl); (case hr => first | (go_simp; done) | (go_simp; rfl)); intro gb531 hg w19 hbox hb; have n0_ := Aside0.mk (Kd.S_below (Kd.S_elderB (by (with_reducible repeat (first | apply Kd.S_alloc | apply Kd.S_drewN | apply Kd.S_drew)); exact HO_6.out) gb531 (Nat.le_of_eq hg.symm)) hb); have n1_ := Aside0.mk (below_step (by repeat (first | (with_reducible first | exact HB.out | apply below_alloc | apply pw_below_drewN | apply below_drew1) | exact HB.out)) hb); have n2_ := Aside0.mk (hbox); have n3_ := Aside0.mk ((by rw [hg]; exact (below_size (by repeat (first | (with_reducible first | exact HB.out | apply below_alloc | apply pw_below_drewN | apply below_drew1) | exact HB.out))) : w.heap.size ≤ gb531)); have n4_ := Aside0.mk ((by rw [hg]; exact (below_size (by repeat (first | (with_reducible first | exact HB.out | apply below_alloc | apply pw_below_drewN | apply below_drew1) | exact HB.out))) : w.heap.size ≤ gb531)); clear HO_6; clear HB; have HO_6 := n0_; have HB := n1_; have BK531 := n2_; have GW531 := n3_; have GE531 := n4_; clear n0_ n1_ n2_ n3_ n4_; clear hb hbox hg; have hcz20_0 : w19.cell? ⟨gb531, 0, none⟩ = some (.int .i64 0) := (blk_cell BK531.out 0).trans rfl; have hcz20_1 : w19.cell? ⟨gb531, 1, none⟩ = some (.int .i64 0) := (blk_cell BK531.out 1).trans rfl; have hcz20_2 : w19.cell? ⟨gb531, 2, none⟩ = some (.int .i64 0) := (blk_cell BK531.out 2).trans rfl; have hfz20_0 := blk_frozen BK531.out 0; have hfz20_1 := blk_frozen BK531.out 1; have hfz20_2 := blk_frozen BK531.out 2) | ((with_reducible refine gate_callee (f := 33) rfl ?_); refine goesL_ (some 37) rfl rfl Tryd.func33 (by kernel_rfl) rfl #[.agg #[.int .i64 ((rd_T40 (rd_L2 l1 x19_1) x30_2).f0), .int .i64 ((rd_T40 (rd_L2 l1 x19_1) x30_2).f1), .int .i64 ((rd_T40 (rd_L2 l1 x19_1) x30_2).f2)], .int .i64 a0] rfl (by (try simp only [List.map_toArray, List.map_cons, List.map_nil]); first | done | rfl | (simp only [List.length_drop, List.length_take]; rfl)) ?_; (with_reducible refine (cuf_Begin.calls ((rd_T40 (rd_L2 l1 x19_1) x30_2).f0) ((rd_T40 (rd_L2 l1 x19_1) x30_2).f1) ((rd_T40 (rd_L2 l1 x19_1) x30_2).f2) a0 t532 t533 t534 t535 t536 t537 t538 t539 t540 t541 true _ A13.out).mono ?_); rintro e w21 ⟨rfl, hb⟩; refine ⟨_, rfl, ?_⟩; have n0_ := Aside0.mk (Kd.S_below (by (with_reducible repeat (first | apply Kd.S_alloc | apply Kd.S_drewN | apply Kd.S_drew)); exact (Kd.S_mono (Kd.S_far (p := ⟨gb531, 2, none⟩) (Kd.S_far (p := ⟨gb531, 1, none⟩) (Kd.S_far (p := ⟨gb531, 0, none⟩) (Kd.S_mono HO_6.out (fun k_ hk => (⟨hk, hk.2⟩ : _ ∧ k_ ≠ gb531))) (fun _ hk => hk.2) (.int .i64 ((rd_T40 (rd_L2 l1 x19_1) x30_2).f0))) (fun _ hk => hk.2) (.int .i64 ((rd_T40 (rd_L2 l1 x19_1) x30_2).f1))) (fun _ hk => hk.2) (.int .i64 ((rd_T40 (rd_L2 l1 x19_1) x30_2).f2))) (fun _ h_ => h_.1))) hb); have n1_ := Aside0.mk (blk_below (g := gb531) (o := .cells #[.int .i64 ((rd_T40 (rd_L2 l1 x19_1) x30_2).f0), .int .i64 ((rd_T40 (rd_L2 l1 x19_1) x30_2).f1), .int .i64 ((rd_T40 (rd_L2 l1 x19_1) x30_2).f2)] 40 (0, 0)) (by (with_reducible repeat (first | refine blk_drewN ?_ _ | refine blk_drew ?_ | refine blk_alloc ?_ _)); refine blk_put (cs := #[.int .i64 ((rd_T40 (rd_L2 l1 x19_1) x30_2).f0), .int .i64 ((rd_T40 (rd_L2 l1 x19_1) x30_2).f1), .int .i64 0]) ?_ 2 _ rfl; (with_reducible repeat (first | refine blk_drewN ?_ _ | refine blk_drew ?_ | refine blk_alloc ?_ _)); refine blk_put (cs := #[.int .i64 ((rd_T40 (rd_L2 l1 x19_1) x30_2).f0), .int .i64 0, .int .i64 0]) ?_ 1 _ rfl; (with_reducible repeat (first | refine blk_drewN ?_ _ | refine blk_drew ?_ | refine blk_alloc ?_ _)); refine blk_put (cs := #[.int .i64 0, .int .i64 0, .int .i64 0]) ?_ 0 _ rfl; (with_reducible repeat (first | refine blk_drewN ?_ _ | refine blk_drew ?_ | refine blk_alloc ?_ _)); exact BK531.out) hb); have n2_ := Aside0.mk (below_step (by repeat (first | (with_reducible first | exact HB.out | apply below_alloc | apply pw_below_drewN | apply below_drew1 | refine below_set ?_ GE531.out) | exact HB.out)) hb); clear HO_6; clear BK531; clear HB; have HO_6 := n0_; have BK531 := n1_; have HB := n2_; clear n0_ n1_ n2_; (try clear hb); (try clear hb2); (try clear hk); (try clear hi)) | ((with_reducible refine gate_dst (N := 12) rfl ?_); (try (refine gate_guard (by rfl) ?_; dsimp only)); refine box_event ?hg (N := 12) ?hd (cs := #[.int .i64 0, .int .i64 0, .int .i64 0, .int .i64 0, .int .i64 0, .int .i64 0, .int .i64 0, .int .i64 0, .bool false, .int .i64 0]) (t := 63) ?hr ?_; (case hd => rfl); (case hg => rfl); (case hr => first | (go_simp; done) | (go_simp; rfl)); intro gb543 hg w22 hbox hb; have n0_ := Aside0.mk (Kd.S_below (by (with_reducible repeat (first | apply Kd.S_alloc | apply Kd.S_drewN | apply Kd.S_drew)); exact HO_6.out) hb); have n1_ := Aside0.mk (blk_below (g := gb531) (o := .cells #[.int .i64 ((rd_T40 (rd_L2 l1 x19_1) x30_2).f0), .int .i64 ((rd_T40 (rd_L2 l1 x19_1) x30_2).f1), .int .i64 ((rd_T40 (rd_L2 l1 x19_1) x30_2).f2)] 40 (0, 0)) (by (with_reducible repeat (first | refine blk_drewN ?_ _ | refine blk_drew ?_ | refine blk_alloc ?_ _)); exact BK531.out) hb); have n2_ := Aside0.mk (below_step (by repeat (first | (with_reducible first | exact HB.out | apply below_alloc | apply pw_below_drewN | apply below_drew1 | refine below_set ?_ GE531.out) | exact HB.out)) hb); have n3_ := Aside0.mk (hbox); have n4_ := Aside0.mk ((by rw [hg]; exact (below_size (by repeat (first | (with_reducible first | exact HB.out | apply below_alloc | apply pw_below_drewN | apply below_drew1 | refine below_set ?_ GE531.out) | exact HB.out))) : w.heap.size ≤ gb543)); have n5_ := Aside0.mk ((by rw [hg]; exact (below_size (by repeat (first | (with_reducible first | exact HB.out | apply below_alloc | apply pw_below_drewN | apply below_drew1 | refine below_set ?_ GE531.out) | exact HB.out))) : w.heap.size ≤ gb543)); have n6_ := Aside0.mk ((by rw [hg]; exact Nat.ne_of_lt (blk_lt (g := gb531) (o := .cells #[.int .i64 ((rd_T40 (rd_L2 l1 x19_1) x30_2).f0), .int .i64 ((rd_T40 (rd_L2 l1 x19_1) x30_2).f1), .int .i64 ((rd_T40 (rd_L2 l1 x19_1) x30_2).f2)] 40 (0, 0)) (by (with_reducible repeat (first | refine blk_drewN ?_ _ | refine blk_drew ?_ | refine blk_alloc ?_ _)); exact BK531.out)) : gb531 ≠ gb543)); have n7_ := Aside0.mk ((by rw [hg]; exact Nat.ne_of_gt (blk_lt (g := gb531) (o := .cells #[.int .i64 ((rd_T40 (rd_L2 l1 x19_1) x30_2).f0), .int .i64 ((rd_T40 (rd_L2 l1 x19_1) x30_2).f1), .int .i64 ((rd_T40 (rd_L2 l1 x19_1) x30_2).f2)] 40 (0, 0)) (by (with_reducible repeat (first | refine blk_drewN ?_ _ | refine blk_drew ?_ | refine blk_alloc ?_ _)); exact BK531.out)) : gb543 ≠ gb531)); clear HO_6; clear BK531; clear HB; have HO_6 := n0_; have BK531 := n1_; have HB := n2_; have BK543 := n3_; have GW543 := n4_; have GE543 := n5_; have NB531_543 := n6_; have NB543_531 := n7_; clear n0_ n1_ n2_ n3_ n4_ n5_ n6_ n7_; clear hb hbox hg; have hnb23 := NB543_531.out; have hnc23 := NB531_543.out; have hcz24_0 : w22.cell? ⟨gb543, 0, none⟩ = some (.int .i64 0) := (blk_cell BK543.out 0).trans rfl; have hcz24_1 : w22.cell? ⟨gb543, 1, none⟩ = some (.int .i64 0) := (blk_cell BK543.out 1).trans rfl; have hcz24_2 : w22.cell? ⟨gb543, 2, none⟩ = some (.int .i64 0) := (blk_cell BK543.out 2).trans rfl; have hcz24_3 : w22.cell? ⟨gb543, 3, none⟩ = some (.int .i64 0) := (blk_cell BK543.out 3).trans rfl; have hcz24_4 : w22.cell? ⟨gb543, 4, none⟩ = some (.int .i64 0) := (blk_cell BK543.out 4).trans rfl; have hcz24_5 : w22.cell? ⟨gb543, 5, none⟩ = some (.int .i64 0) := (blk_cell BK543.out 5).trans rfl; have hcz24_6 : w22.cell? ⟨gb543, 6, none⟩ = some (.int .i64 0) := (blk_cell BK543.out 6).trans rfl; have hcz24_7 : w22.cell? ⟨gb543, 7, none⟩ = some (.int .i64 0) := (blk_cell BK543.out 7).trans rfl; have hcz24_8 : w22.cell? ⟨gb543, 8, none⟩ = some (.bool false) := (blk_cell BK543.out 8).trans rfl; have hcz24_9 : w22.cell? ⟨gb543, 9, none⟩ = some (.int .i64 0) := (blk_cell BK543.out 9).trans rfl; have hfz24_0 := blk_frozen BK543.out 0; have hfz24_1 := blk_frozen BK543.out 1; have hfz24_2 := blk_frozen BK543.out 2; have hfz24_3 := blk_frozen BK543.out 3; have hfz24_4 := blk_frozen BK543.out 4; have hfz24_5 := blk_frozen BK543.out 5; have hfz24_6 := blk_frozen BK543.out 6; have hfz24_7 := blk_frozen BK543.out 7; have hfz24_8 := blk_frozen BK543.out 8; have hfz24_9 := blk_frozen BK543.out 9))
                 have n0_ : Aside0 (Kd.S k65 65 ((((((((((w22.setCell ⟨gb543, 0, none⟩ (.int .i64 t532)).setCell ⟨gb543, 1, none⟩ (.int .i64 t533)).setCell ⟨gb543, 2, none⟩ (.int .i64 t534)).setCell ⟨gb543, 3, none⟩ (.int .i64 t535)).setCell ⟨gb543, 4, none⟩ (.int .i64 t536)).setCell ⟨gb543, 5, none⟩ (.int .i64 t537)).setCell ⟨gb543, 6, none⟩ (.int .i64 t538)).setCell ⟨gb543, 7, none⟩ (.int .i64 t539)).setCell ⟨gb543, 8, none⟩ (.bool t540)).setCell ⟨gb543, 9, none⟩ (.int .i64 t541)) w.heap.size (fun k_ => k_ ≠ gb531) v527 x6_2) := ⟨by (with_reducible repeat (first | apply Kd.S_alloc | apply Kd.S_drewN | apply Kd.S_drew)); exact Kd.S_mono (Kd.S_far (p := ⟨gb543, 9, none⟩) (Kd.S_far (p := ⟨gb543, 8, none⟩) (Kd.S_far (p := ⟨gb543, 7, none⟩) (Kd.S_far (p := ⟨gb543, 6, none⟩) (Kd.S_far (p := ⟨gb543, 5, none⟩) (Kd.S_far (p := ⟨gb543, 4, none⟩) (Kd.S_far (p := ⟨gb543, 3, none⟩) (Kd.S_far (p := ⟨gb543, 2, none⟩) (Kd.S_far (p := ⟨gb543, 1, none⟩) (Kd.S_far (p := ⟨gb543, 0, none⟩) (Kd.S_types HO_6.out BK543.out (by decide)) (fun _ hk => hk.2) (.int .i64 t532)) (fun _ hk => hk.2) (.int .i64 t533)) (fun _ hk => hk.2) (.int .i64 t534)) (fun _ hk => hk.2) (.int .i64 t535)) (fun _ hk => hk.2) (.int .i64 t536)) (fun _ hk => hk.2) (.int .i64 t537)) (fun _ hk => hk.2) (.int .i64 t538)) (fun _ hk => hk.2) (.int .i64 t539)) (fun _ hk => hk.2) (.bool t540)) (fun _ hk => hk.2) (.int .i64 t541)) (fun _ hk => hk.1.2)⟩
                 have n1_ : Aside0 (((((((((((w22.setCell ⟨gb543, 0, none⟩ (.int .i64 t532)).setCell ⟨gb543, 1, none⟩ (.int .i64 t533)).setCell ⟨gb543, 2, none⟩ (.int .i64 t534)).setCell ⟨gb543, 3, none⟩ (.int .i64 t535)).setCell ⟨gb543, 4, none⟩ (.int .i64 t536)).setCell ⟨gb543, 5, none⟩ (.int .i64 t537)).setCell ⟨gb543, 6, none⟩ (.int .i64 t538)).setCell ⟨gb543, 7, none⟩ (.int .i64 t539)).setCell ⟨gb543, 8, none⟩ (.bool t540)).setCell ⟨gb543, 9, none⟩ (.int .i64 t541)).heap[gb531]? = some (.cells #[.int .i64 ((rd_T40 (rd_L2 l1 x19_1) x30_2).f0), .int .i64 ((rd_T40 (rd_L2 l1 x19_1) x30_2).f1), .int .i64 ((rd_T40 (rd_L2 l1 x19_1) x30_2).f2)] 40 (0, 0))) := ⟨by (with_reducible repeat (first | refine blk_drewN ?_ _ | refine blk_drew ?_ | refine blk_alloc ?_ _)); refine blk_far ?_ NB531_543.out _; (with_reducible repeat (first | refine blk_drewN ?_ _ | refine blk_drew ?_ | refine blk_alloc ?_ _)); refine blk_far ?_ NB531_543.out _; (with_reducible repeat (first | refine blk_drewN ?_ _ | refine blk_drew ?_ | refine blk_alloc ?_ _)); refine blk_far ?_ NB531_543.out _; (with_reducible repeat (first | refine blk_drewN ?_ _ | refine blk_drew ?_ | refine blk_alloc ?_ _)); refine blk_far ?_ NB531_543.out _; (with_reducible repeat (first | refine blk_drewN ?_ _ | refine blk_drew ?_ | refine blk_alloc ?_ _)); refine blk_far ?_ NB531_543.out _; (with_reducible repeat (first | refine blk_drewN ?_ _ | refine blk_drew ?_ | refine blk_alloc ?_ _)); refine blk_far ?_ NB531_543.out _; (with_reducible repeat (first | refine blk_drewN ?_ _ | refine blk_drew ?_ | refine blk_alloc ?_ _)); refine blk_far ?_ NB531_543.out _; (with_reducible repeat (first | refine blk_drewN ?_ _ | refine blk_drew ?_ | refine blk_alloc ?_ _)); refine blk_far ?_ NB531_543.out _; (with_reducible repeat (first | refine blk_drewN ?_ _ | refine blk_drew ?_ | refine blk_alloc ?_ _)); refine blk_far ?_ NB531_543.out _; (with_reducible repeat (first | refine blk_drewN ?_ _ | refine blk_drew ?_ | refine blk_alloc ?_ _)); refine blk_far ?_ NB531_543.out _; (with_reducible repeat (first | refine blk_drewN ?_ _ | refine blk_drew ?_ | refine blk_alloc ?_ _)); exact BK531.out⟩
                 have n2_ : Aside0 (((((((((((w22.setCell ⟨gb543, 0, none⟩ (.int .i64 t532)).setCell ⟨gb543, 1, none⟩ (.int .i64 t533)).setCell ⟨gb543, 2, none⟩ (.int .i64 t534)).setCell ⟨gb543, 3, none⟩ (.int .i64 t535)).setCell ⟨gb543, 4, none⟩ (.int .i64 t536)).setCell ⟨gb543, 5, none⟩ (.int .i64 t537)).setCell ⟨gb543, 6, none⟩ (.int .i64 t538)).setCell ⟨gb543, 7, none⟩ (.int .i64 t539)).setCell ⟨gb543, 8, none⟩ (.bool t540)).setCell ⟨gb543, 9, none⟩ (.int .i64 t541)).heap[gb543]? = some (.cells #[.int .i64 t532, .int .i64 t533, .int .i64 t534, .int .i64 t535, .int .i64 t536, .int .i64 t537, .int .i64 t538, .int .i64 t539, .bool t540, .int .i64 t541] 63 (0, 0))) := ⟨by (with_reducible repeat (first | refine blk_drewN ?_ _ | refine blk_drew ?_ | refine blk_alloc ?_ _)); refine blk_put (cs := #[.int .i64 t532, .int .i64 t533, .int .i64 t534, .int .i64 t535, .int .i64 t536, .int .i64 t537, .int .i64 t538, .int .i64 t539, .bool t540, .int .i64 0]) ?_ 9 _ rfl; (with_reducible repeat (first | refine blk_drewN ?_ _ | refine blk_drew ?_ | refine blk_alloc ?_ _)); refine blk_put (cs := #[.int .i64 t532, .int .i64 t533, .int .i64 t534, .int .i64 t535, .int .i64 t536, .int .i64 t537, .int .i64 t538, .int .i64 t539, .bool false, .int .i64 0]) ?_ 8 _ rfl; (with_reducible repeat (first | refine blk_drewN ?_ _ | refine blk_drew ?_ | refine blk_alloc ?_ _)); refine blk_put (cs := #[.int .i64 t532, .int .i64 t533, .int .i64 t534, .int .i64 t535, .int .i64 t536, .int .i64 t537, .int .i64 t538, .int .i64 0, .bool false, .int .i64 0]) ?_ 7 _ rfl; (with_reducible repeat (first | refine blk_drewN ?_ _ | refine blk_drew ?_ | refine blk_alloc ?_ _)); refine blk_put (cs := #[.int .i64 t532, .int .i64 t533, .int .i64 t534, .int .i64 t535, .int .i64 t536, .int .i64 t537, .int .i64 0, .int .i64 0, .bool false, .int .i64 0]) ?_ 6 _ rfl; (with_reducible repeat (first | refine blk_drewN ?_ _ | refine blk_drew ?_ | refine blk_alloc ?_ _)); refine blk_put (cs := #[.int .i64 t532, .int .i64 t533, .int .i64 t534, .int .i64 t535, .int .i64 t536, .int .i64 0, .int .i64 0, .int .i64 0, .bool false, .int .i64 0]) ?_ 5 _ rfl; (with_reducible repeat (first | refine blk_drewN ?_ _ | refine blk_drew ?_ | refine blk_alloc ?_ _)); refine blk_put (cs := #[.int .i64 t532, .int .i64 t533, .int .i64 t534, .int .i64 t535, .int .i64 0, .int .i64 0, .int .i64 0, .int .i64 0, .bool false, .int .i64 0]) ?_ 4 _ rfl; (with_reducible repeat (first | refine blk_drewN ?_ _ | refine blk_drew ?_ | refine blk_alloc ?_ _)); refine blk_put (cs := #[.int .i64 t532, .int .i64 t533, .int .i64 t534, .int .i64 0, .int .i64 0, .int .i64 0, .int .i64 0, .int .i64 0, .bool false, .int .i64 0]) ?_ 3 _ rfl; (with_reducible repeat (first | refine blk_drewN ?_ _ | refine blk_drew ?_ | refine blk_alloc ?_ _)); refine blk_put (cs := #[.int .i64 t532, .int .i64 t533, .int .i64 0, .int .i64 0, .int .i64 0, .int .i64 0, .int .i64 0, .int .i64 0, .bool false, .int .i64 0]) ?_ 2 _ rfl; (with_reducible repeat (first | refine blk_drewN ?_ _ | refine blk_drew ?_ | refine blk_alloc ?_ _)); refine blk_put (cs := #[.int .i64 t532, .int .i64 0, .int .i64 0, .int .i64 0, .int .i64 0, .int .i64 0, .int .i64 0, .int .i64 0, .bool false, .int .i64 0]) ?_ 1 _ rfl; (with_reducible repeat (first | refine blk_drewN ?_ _ | refine blk_drew ?_ | refine blk_alloc ?_ _)); refine blk_put (cs := #[.int .i64 0, .int .i64 0, .int .i64 0, .int .i64 0, .int .i64 0, .int .i64 0, .int .i64 0, .int .i64 0, .bool false, .int .i64 0]) ?_ 0 _ rfl; (with_reducible repeat (first | refine blk_drewN ?_ _ | refine blk_drew ?_ | refine blk_alloc ?_ _)); exact BK543.out⟩
                 have n3_ : Aside0 (Below w.heap.size w ((((((((((w22.setCell ⟨gb543, 0, none⟩ (.int .i64 t532)).setCell ⟨gb543, 1, none⟩ (.int .i64 t533)).setCell ⟨gb543, 2, none⟩ (.int .i64 t534)).setCell ⟨gb543, 3, none⟩ (.int .i64 t535)).setCell ⟨gb543, 4, none⟩ (.int .i64 t536)).setCell ⟨gb543, 5, none⟩ (.int .i64 t537)).setCell ⟨gb543, 6, none⟩ (.int .i64 t538)).setCell ⟨gb543, 7, none⟩ (.int .i64 t539)).setCell ⟨gb543, 8, none⟩ (.bool t540)).setCell ⟨gb543, 9, none⟩ (.int .i64 t541))) := ⟨by repeat (first | (with_reducible first | exact HB.out | apply below_alloc | apply pw_below_drewN | apply below_drew1 | refine below_set ?_ GE531.out | refine below_set ?_ GE543.out) | exact HB.out)⟩
                 (try clear HO_6)
                 (try clear BK531)
                 (try clear BK543)
                 (try clear HB)
                 generalize ((((((((((w22.setCell ⟨gb543, 0, none⟩ (.int .i64 t532)).setCell ⟨gb543, 1, none⟩ (.int .i64 t533)).setCell ⟨gb543, 2, none⟩ (.int .i64 t534)).setCell ⟨gb543, 3, none⟩ (.int .i64 t535)).setCell ⟨gb543, 4, none⟩ (.int .i64 t536)).setCell ⟨gb543, 5, none⟩ (.int .i64 t537)).setCell ⟨gb543, 6, none⟩ (.int .i64 t538)).setCell ⟨gb543, 7, none⟩ (.int .i64 t539)).setCell ⟨gb543, 8, none⟩ (.bool t540)).setCell ⟨gb543, 9, none⟩ (.int .i64 t541)) = w25 at n0_ n1_ n2_ n3_ ⊢
                 have HO_6 := n0_
                 have BK531 := n1_
                 have BK543 := n2_
                 have HB := n3_
                 clear n0_ n1_ n2_ n3_
                 have n0_ := Aside0.mk (Kd.S_drew HO_6.out)
                 have n1_ := Aside0.mk (blk_drew BK531.out)
                 have n2_ := Aside0.mk (blk_drew BK543.out)
                 have n3_ := Aside0.mk (below_drew1 HB.out)
                 clear HO_6
                 clear BK531
                 clear BK543
                 clear HB
                 have HO_6 := n0_
                 have BK531 := n1_
                 have BK543 := n2_
                 have HB := n3_
                 clear n0_ n1_ n2_ n3_
                 obtain ⟨Ao27, co27, eo27⟩ := Kd.S_slice HO_6.out
                 (first | subst eo27 | (injection eo27 with f1_ f2_ f3_; have f4_ := f1_.symm; have f5_ := f3_.symm; clear f1_ f2_ f3_; subst f4_; subst f5_))
                 have p544 : 0 ≤ (x19_1 : Int) := of_decide_eq_true (by first | (with_reducible assumption) | assumption)
                 have q544 : x19_1 < (x6_2.length : Int) := of_decide_eq_true (by first | (with_reducible assumption) | assumption)
                 obtain ⟨ad544, A544_0, c544_0, e544, hx544_0, hx544_1, hx544_2, hx544_3, hx544_4, hx544_5, hx544_6, hx544_7, hx544_8, hx544_9, hx544_10, hx544_11, hx544_12, hx544_13, hl544_0, hi544_0⟩ := at_T65 (Kd.S_reads' HO_6.out).2.2 x19_1 p544 q544
                 cases e544
                 obtain ⟨ce544, hce544, hMe544, hcc544⟩ := Kd.S_get HO_6.out z65 x19_1 p544 (by first | exact q544 | exact of_decide_eq_true (by first | (with_reducible assumption) | assumption) | (have e_ := (Kd.S_reads' HO_6.out).1; omega))
                 obtain ⟨ve544_0, rfl, ge544_0⟩ := k65_openM hMe544
                 have hv544_0 := hcc544 0 _ rfl
                 rw [Nat.add_zero] at hv544_0
                 replace hv544_0 := Option.some.inj (hv544_0.symm.trans hx544_0)
                 rw [hv544_0] at ge544_0
                 have HL544_0 := Aside0.mk (show Kd.R k40 40 _ _ _ _ ((rd_T65 x6_2 x19_1).f0) from ge544_0)
                 clear hv544_0 ge544_0
                 have HX544_0 := Aside0.mk hx544_0
                 clear hcc544 hce544
                 have HR544_0 := Aside0.mk hi544_0
                 have HC544_0 := Aside0.mk hl544_0
                 clear hi544_0 hl544_0
                 replace p544 := eq_true p544
                 replace q544 := eq_true q544
                 obtain ⟨go28, co28, eo28, gb28, gl28, cl28, HG28⟩ := Kd.S_form HO_6.out (by have h_ : (x19_1 : Int) < ((x6_2.length : Int) : Int) := of_decide_eq_true (by first | (with_reducible assumption) | assumption); have h2_ : 0 ≤ (x19_1 : Int) := (of_decide_eq_true (by first | (with_reducible assumption) | assumption)); omega)
                 (first | cases eo28 | (injection eo28 with ea_ en_ ec_; (first | subst ea_ | (injection ea_ with ea_; subst ea_)); subst ec_; clear en_))
                 have GB28 := Aside0.mk gb28
                 have GG28 := Aside0.mk HG28
                 clear gb28 gl28 HG28
                 (first | simp only [add_plain] at hx544_0 | skip)
                 (first | simp only [add_plain] at hx544_1 | skip)
                 (first | simp only [add_plain] at hx544_2 | skip)
                 (first | simp only [add_plain] at hx544_3 | skip)
                 (first | simp only [add_plain] at hx544_4 | skip)
                 (first | simp only [add_plain] at hx544_5 | skip)
                 (first | simp only [add_plain] at hx544_6 | skip)
                 (first | simp only [add_plain] at hx544_7 | skip)
                 (first | simp only [add_plain] at hx544_8 | skip)
                 (first | simp only [add_plain] at hx544_9 | skip)
                 (first | simp only [add_plain] at hx544_10 | skip)
                 (first | simp only [add_plain] at hx544_11 | skip)
                 (first | simp only [add_plain] at hx544_12 | skip)
                 (first | simp only [add_plain] at hx544_13 | skip)
                 obtain ⟨oki28, ce28, hcl28, hM28, hcc28, _, _, hH28⟩ := Kd.S_elem HO_6.out z65 (x19_1 : Int) (of_decide_eq_true (by first | (with_reducible assumption) | assumption)) (by have h_ : (x19_1 : Int) < ((x6_2.length : Int) : Int) := of_decide_eq_true (by first | (with_reducible assumption) | assumption); first | exact h_ | (have e_ := (Kd.S_reads' HO_6.out).1; omega) | simpa using h_)
                 obtain ⟨ve28_0, rfl, ge28_0⟩ := k65_openM hM28
                 have hv28 := hcc28 0 _ rfl
                 have hX28 := HX544_0.out
                 (try simp only [add_plain] at hX28)
                 (try simp only [Nat.add_zero] at hv28)
                 replace hv28 := Option.some.inj (hv28.symm.trans hX28)
                 subst hv28
                 clear hX28 hcc28 hcl28
                 have UU28 := Aside0.mk (show Kd.R k40 40 _ w.heap.size oki28 (.slice A544_0 ((rd_T65 x6_2 x19_1).f0).length c544_0) ((rd_T65 x6_2 x19_1).f0) from ge28_0)
                 have HH28 := Aside0.mk hH28
                 have HN28 := Aside0.mk (Kd.S_reads' HO_6.out).1
                 clear hH28 ge28_0
                 refine start_ (n := 13) (S := fun w' => w'.cell? ⟨gb531, 0, none⟩ = some (.int .i64 ((rd_T40 (rd_L2 l1 x19_1) x30_2).f0)) ∧ w'.cell? ⟨gb531, 1, none⟩ = some (.int .i64 ((rd_T40 (rd_L2 l1 x19_1) x30_2).f1)) ∧ w'.cell? ⟨gb531, 2, none⟩ = some (.int .i64 ((rd_T40 (rd_L2 l1 x19_1) x30_2).f2)) ∧ w'.cell? ⟨go28, ((x19_1).toNat * 14), none⟩ = some (.slice A544_0 ((rd_T65 x6_2 x19_1).f0).length c544_0) ∧ w'.cell? ⟨go28, ((x19_1).toNat * 14) + 1, none⟩ = some (.int .i64 ((rd_T65 x6_2 x19_1).f1.f0.f0)) ∧ w'.cell? ⟨go28, ((x19_1).toNat * 14) + 2, none⟩ = some (.int .i64 ((rd_T65 x6_2 x19_1).f1.f0.f1)) ∧ w'.cell? ⟨go28, ((x19_1).toNat * 14) + 3, none⟩ = some (.int .i64 ((rd_T65 x6_2 x19_1).f1.f0.f2)) ∧ w'.cell? ⟨go28, ((x19_1).toNat * 14) + 4, none⟩ = some (.int .i64 ((rd_T65 x6_2 x19_1).f1.f1)) ∧ w'.cell? ⟨go28, ((x19_1).toNat * 14) + 5, none⟩ = some (.int .i64 ((rd_T65 x6_2 x19_1).f1.f2)) ∧ w'.cell? ⟨go28, ((x19_1).toNat * 14) + 6, none⟩ = some (.int .i64 ((rd_T65 x6_2 x19_1).f1.f3)) ∧ w'.cell? ⟨go28, ((x19_1).toNat * 14) + 7, none⟩ = some (.int .i64 ((rd_T65 x6_2 x19_1).f1.f4)) ∧ w'.cell? ⟨go28, ((x19_1).toNat * 14) + 8, none⟩ = some (.int .i64 ((rd_T65 x6_2 x19_1).f1.f5)) ∧ w'.cell? ⟨go28, ((x19_1).toNat * 14) + 9, none⟩ = some (.bool ((rd_T65 x6_2 x19_1).f1.f6)) ∧ w'.cell? ⟨go28, ((x19_1).toNat * 14) + 10, none⟩ = some (.int .i64 ((rd_T65 x6_2 x19_1).f1.f7)) ∧ w'.cell? ⟨go28, ((x19_1).toNat * 14) + 11, none⟩ = some (.bool ((rd_T65 x6_2 x19_1).f2)) ∧ w'.cell? ⟨go28, ((x19_1).toNat * 14) + 12, none⟩ = some (.int .i64 ((rd_T65 x6_2 x19_1).f3)) ∧ w'.cell? ⟨go28, ((x19_1).toNat * 14) + 13, none⟩ = some (.int .i64 ((rd_T65 x6_2 x19_1).f4))) (ds := [12]) #[false, false, false, false, false, false, false, false, false, false, false, false, false] (by kernel_rfl) rfl rfl ⟨(blk_cell BK531.out 0).trans rfl, (blk_cell BK531.out 1).trans rfl, (blk_cell BK531.out 2).trans rfl, hx544_0, hx544_1, hx544_2, hx544_3, hx544_4, hx544_5, hx544_6, hx544_7, hx544_8, hx544_9, hx544_10, hx544_11, hx544_12, hx544_13⟩ (fun hHeld => ?_); refine with_tabW play_start.tab12 play_start.bits12 (fun HT_ HW_ => ?_)
                 generalize w25.drew = w26 at HO_6 BK531 BK543 HB GG28 HH28 HL544_0 HR544_0 HX544_0 UU28 hx544_0 hx544_1 hx544_10 hx544_11 hx544_12 hx544_13 hx544_2 hx544_3 hx544_4 hx544_5 hx544_6 hx544_7 hx544_8 hx544_9 hHeld ⊢
                 refine pure_ (i := 0) (N := some 41) (v := ?_) (a' := ?_) #[true, false, false, false, false, false, false, false, false, false, false, false, false] rfl rfl (any_of HT_.out (by kernel_rfl)) (fun _ _ _ h => h) (Or.inl ⟨by rfl, ?_⟩) ?_ ?_
                 rotate_left
                 ·
                  intro w'
                  go_simp
                  with_reducible rfl
                 rotate_left
                 ·
                  simp only [Act.put, List.setIfInBounds_toArray, List.set_cons_zero, List.set_cons_succ, i64_w, i32_w]
                  rfl
                 refine pure_ (i := 1) (N := some 42) (v := ?_) (a' := ?_) #[true, true, false, false, false, false, false, false, false, false, false, false, false] rfl rfl (any_of HT_.out (by kernel_rfl)) (fun _ _ _ h => h) (Or.inl ⟨by rfl, ?_⟩) ?_ ?_
                 rotate_left
                 ·
                  intro w'
                  go_simp
                  with_reducible rfl
                 rotate_left
                 ·
                  simp only [Act.put, List.setIfInBounds_toArray, List.set_cons_zero, List.set_cons_succ, i64_w, i32_w]
                  rfl
                 refine pure_ (i := 2) (N := some 43) (v := ?_) (a' := ?_) #[true, true, true, false, false, false, false, false, false, false, false, false, false] rfl rfl (any_of HT_.out (by kernel_rfl)) (fun _ _ _ h => h) (Or.inl ⟨by rfl, ?_⟩) ?_ ?_
                 rotate_left
                 ·
                  intro w'
                  go_simp
                  with_reducible rfl
                 rotate_left
                 ·
                  simp only [Act.put, List.setIfInBounds_toArray, List.set_cons_zero, List.set_cons_succ, i64_w, i32_w]
                  rfl
                 refine pure_ (i := 3) (N := some 44) (v := ?_) (a' := ?_) #[true, true, true, true, false, false, false, false, false, false, false, false, false] rfl rfl (any_of HT_.out (by kernel_rfl)) (fun _ _ _ h => h) (Or.inl ⟨by rfl, ?_⟩) ?_ ?_
                 rotate_left
                 ·
                  intro w'
                  go_simp
                  with_reducible rfl
                 rotate_left
                 ·
                  simp only [Act.put, List.setIfInBounds_toArray, List.set_cons_zero, List.set_cons_succ, i64_w, i32_w]
                  rfl
                 refine pure_ (i := 4) (N := some 45) (v := ?_) (a' := ?_) #[true, true, true, true, true, false, false, false, false, false, false, false, false] rfl rfl (any_of HT_.out (by kernel_rfl)) (fun _ _ _ h => h) (Or.inl ⟨by rfl, ?_⟩) ?_ ?_
                 rotate_left
                 ·
                  intro w'
                  go_simp
                  with_reducible rfl
                 rotate_left
                 ·
                  simp only [Act.put, List.setIfInBounds_toArray, List.set_cons_zero, List.set_cons_succ, i64_w, i32_w]
                  rfl
                 refine pure_ (i := 5) (N := some 46) (v := ?_) (a' := ?_) #[true, true, true, true, true, true, false, false, false, false, false, false, false] rfl rfl (any_of HT_.out (by kernel_rfl)) (fun _ _ _ h => h) (Or.inl ⟨by rfl, ?_⟩) ?_ ?_
                 rotate_left
                 ·
                  intro w'
                  go_simp
                  with_reducible rfl
                 rotate_left
                 ·
                  simp only [Act.put, List.setIfInBounds_toArray, List.set_cons_zero, List.set_cons_succ, i64_w, i32_w]
                  rfl
                 refine take_ (i := 6) (N := some 47) (v := ?_) (a' := ?_) #[true, true, true, true, true, true, true, false, false, false, false, false, false] rfl rfl (take_ofW HT_.out HW_.out (by kernel_rfl)) (fun _ _ _ h => h) (Or.inl ⟨by rfl, ?_⟩) hHeld ?_ ?_
                 rotate_left
                 ·
                  rintro w' ⟨s0, s1, s2, s3, s4, s5, s6, s7, s8, s9, s10, s11, s12, s13, s14, s15, s16⟩
                  go_simp
                  with_reducible rfl
                 rotate_left
                 ·
                  simp only [Act.put, List.setIfInBounds_toArray, List.set_cons_zero, List.set_cons_succ, i64_w, i32_w]
                  rfl
                 refine take_ (i := 7) (N := some 48) (v := ?_) (a' := ?_) #[true, true, true, true, true, true, true, true, false, false, false, false, false] rfl rfl (take_ofW HT_.out HW_.out (by kernel_rfl)) (fun _ _ _ h => h) (Or.inl ⟨by rfl, ?_⟩) hHeld ?_ ?_
                 rotate_left
                 ·
                  rintro w' ⟨s0, s1, s2, s3, s4, s5, s6, s7, s8, s9, s10, s11, s12, s13, s14, s15, s16⟩
                  go_simp
                  with_reducible rfl
                 rotate_left
                 ·
                  simp only [Act.put, List.setIfInBounds_toArray, List.set_cons_zero, List.set_cons_succ, i64_w, i32_w]
                  rfl
                 refine one_ (i := 8) (N := some 49) #[true, true, true, true, true, true, true, true, true, false, false, false, false] rfl rfl (one_of HT_.out (by kernel_rfl)) (by decide) (fun K hK => ?_)
                 refine value_ (w1 := ?_) (v := ?_) (by rfl) rfl ?_ ?_
                 rotate_left 2
                 ·
                  go_simp
                  constructor
                  ·
                   rfl
                  ·
                   rfl
                 refine hK.out _ _ ⟨(blk_cell (blk_alloc BK531.out _) 0).trans rfl, (blk_cell (blk_alloc BK531.out _) 1).trans rfl, (blk_cell (blk_alloc BK531.out _) 2).trans rfl, (World.cell?_alloc_lt _ _ _ (World.block_lt_of_cell? _ _ (hHeld.2.2.2.1))).trans (hHeld.2.2.2.1), (World.cell?_alloc_lt _ _ _ (World.block_lt_of_cell? _ _ (hHeld.2.2.2.2.1))).trans (hHeld.2.2.2.2.1), (World.cell?_alloc_lt _ _ _ (World.block_lt_of_cell? _ _ (hHeld.2.2.2.2.2.1))).trans (hHeld.2.2.2.2.2.1), (World.cell?_alloc_lt _ _ _ (World.block_lt_of_cell? _ _ (hHeld.2.2.2.2.2.2.1))).trans (hHeld.2.2.2.2.2.2.1), (World.cell?_alloc_lt _ _ _ (World.block_lt_of_cell? _ _ (hHeld.2.2.2.2.2.2.2.1))).trans (hHeld.2.2.2.2.2.2.2.1), (World.cell?_alloc_lt _ _ _ (World.block_lt_of_cell? _ _ (hHeld.2.2.2.2.2.2.2.2.1))).trans (hHeld.2.2.2.2.2.2.2.2.1), (World.cell?_alloc_lt _ _ _ (World.block_lt_of_cell? _ _ (hHeld.2.2.2.2.2.2.2.2.2.1))).trans (hHeld.2.2.2.2.2.2.2.2.2.1), (World.cell?_alloc_lt _ _ _ (World.block_lt_of_cell? _ _ (hHeld.2.2.2.2.2.2.2.2.2.2.1))).trans (hHeld.2.2.2.2.2.2.2.2.2.2.1), (World.cell?_alloc_lt _ _ _ (World.block_lt_of_cell? _ _ (hHeld.2.2.2.2.2.2.2.2.2.2.2.1))).trans (hHeld.2.2.2.2.2.2.2.2.2.2.2.1), (World.cell?_alloc_lt _ _ _ (World.block_lt_of_cell? _ _ (hHeld.2.2.2.2.2.2.2.2.2.2.2.2.1))).trans (hHeld.2.2.2.2.2.2.2.2.2.2.2.2.1), (World.cell?_alloc_lt _ _ _ (World.block_lt_of_cell? _ _ (hHeld.2.2.2.2.2.2.2.2.2.2.2.2.2.1))).trans (hHeld.2.2.2.2.2.2.2.2.2.2.2.2.2.1), (World.cell?_alloc_lt _ _ _ (World.block_lt_of_cell? _ _ (hHeld.2.2.2.2.2.2.2.2.2.2.2.2.2.2.1))).trans (hHeld.2.2.2.2.2.2.2.2.2.2.2.2.2.2.1), (World.cell?_alloc_lt _ _ _ (World.block_lt_of_cell? _ _ (hHeld.2.2.2.2.2.2.2.2.2.2.2.2.2.2.2.1))).trans (hHeld.2.2.2.2.2.2.2.2.2.2.2.2.2.2.2.1), (World.cell?_alloc_lt _ _ _ (World.block_lt_of_cell? _ _ (hHeld.2.2.2.2.2.2.2.2.2.2.2.2.2.2.2.2))).trans (hHeld.2.2.2.2.2.2.2.2.2.2.2.2.2.2.2.2)⟩ (fun hHeld => ?_)
                 clear hK K
                 refine norm_ (a' := ?_) ?_ ?_
                 rotate_left
                 ·
                  show Act.put _ (some 49) _ = _
                  simp only [Act.put, List.setIfInBounds_toArray, List.set_cons_zero, List.set_cons_succ, i64_w, i32_w]
                  rfl
                 refine one_ (i := 9) (N := some 50) #[true, true, true, true, true, true, true, true, true, true, false, false, false] rfl rfl (one_of HT_.out (by kernel_rfl)) (by decide) (fun K hK => ?_)
                 refine Kd.R_append_step k40 (w0 := w) w.heap.size (by rfl) (.tmp 47) (.tmp 49) 43 40 (.agg #[(.int .i64 0), (.int .i64 0), (.int .i64 0)]) 24 rfl Tryd.underlying43 info40 rfl (by decide) (by omega) (.slice A544_0 ((rd_T65 x6_2 x19_1).f0).length c544_0) ((rd_T65 x6_2 x19_1).f0) (⟨(rd_T40 (rd_L2 l1 x19_1) x30_2).f0, (rd_T40 (rd_L2 l1 x19_1) x30_2).f1, (rd_T40 (rd_L2 l1 x19_1) x30_2).f2⟩ : S40) [.int .i64 ((rd_T40 (rd_L2 l1 x19_1) x30_2).f0), .int .i64 ((rd_T40 (rd_L2 l1 x19_1) x30_2).f1), .int .i64 ((rd_T40 (rd_L2 l1 x19_1) x30_2).f2)] (fun k_ => oki28 k_ ∨ ((fun k_ => k_ ≠ gb531)) k_ ∧ w26.heap.size ≤ k_) (fun _ => False) rfl rfl ?aP (fun _ hk => hk.elim) ?aF ?aO ?aB ?aS ?aL ?_
                 (case aP => exact k40_mkM _ _ _ (⟨(rd_T40 (rd_L2 l1 x19_1) x30_2).f0, (rd_T40 (rd_L2 l1 x19_1) x30_2).f1, (rd_T40 (rd_L2 l1 x19_1) x30_2).f2⟩ : S40))
                 (case aB => exact (by repeat (first | (with_reducible first | exact HB.out | apply below_alloc | apply pw_below_drewN | apply below_drew1 | refine below_set ?_ GE531.out | refine below_set ?_ GE543.out) | exact HB.out)))
                 (case aF => exact (fun k_ hk => .inr ⟨Kd.freshB (g := gb531) (o := .cells #[.int .i64 ((rd_T40 (rd_L2 l1 x19_1) x30_2).f0), .int .i64 ((rd_T40 (rd_L2 l1 x19_1) x30_2).f1), .int .i64 ((rd_T40 (rd_L2 l1 x19_1) x30_2).f2)] 40 (0, 0)) (by (with_reducible repeat (first | refine blk_drewN ?_ _ | refine blk_drew ?_ | refine blk_alloc ?_ _)); exact BK531.out) k_ hk, hk⟩))
                 (case aO => exact (by (with_reducible repeat (first | apply Kd.R_alloc | apply Kd.R_drewN | apply Kd.R_drew)); exact Kd.R_mono UU28.out (fun _ hk => .inl hk)))
                 (case aS => exact (below_size (by repeat (first | (with_reducible first | exact HB.out | apply below_alloc | apply pw_below_drewN | apply below_drew1 | refine below_set ?_ GE531.out | refine below_set ?_ GE543.out) | exact HB.out))))
                 (case aL => have := LMc17.out; omega)
                 intro v546 w29 ho hb hg hat
                 (first | have HS3_ := cell_grown hg (hHeld.2.2.2.1) (by first | (rw [add_block]; exact (fun e_ => ((HL544_0.out.1 _ e_.symm).2) rfl)) | (show some (Addr.add _ _).block ≠ _; rw [add_block]; exact (fun e_ => ((HL544_0.out.1 _ e_.symm).2) rfl)) | exact (fun e_ => ((HL544_0.out.1 _ e_.symm).2) rfl) | exact (fun e_ => ((HL544_0.out.1 _ e_).2) rfl)) | have HS3_ := cell_grown hg (cell_unalloc (hHeld.2.2.2.1) (by first | (rw [add_block]; exact Kd.S_lt HO_6.out _ rfl) | (show (Addr.add _ _).block < _; rw [add_block]; exact Kd.S_lt HO_6.out _ rfl) | exact Kd.S_lt HO_6.out _ rfl)) (by first | (rw [add_block]; exact (fun e_ => ((HL544_0.out.1 _ e_.symm).2) rfl)) | (show some (Addr.add _ _).block ≠ _; rw [add_block]; exact (fun e_ => ((HL544_0.out.1 _ e_.symm).2) rfl)) | exact (fun e_ => ((HL544_0.out.1 _ e_.symm).2) rfl) | exact (fun e_ => ((HL544_0.out.1 _ e_).2) rfl)))
                 (first | have HS4_ := cell_grown hg (hHeld.2.2.2.2.1) (by first | (rw [add_block]; exact (fun e_ => ((HL544_0.out.1 _ e_.symm).2) rfl)) | (show some (Addr.add _ _).block ≠ _; rw [add_block]; exact (fun e_ => ((HL544_0.out.1 _ e_.symm).2) rfl)) | exact (fun e_ => ((HL544_0.out.1 _ e_.symm).2) rfl) | exact (fun e_ => ((HL544_0.out.1 _ e_).2) rfl)) | have HS4_ := cell_grown hg (cell_unalloc (hHeld.2.2.2.2.1) (by first | (rw [add_block]; exact Kd.S_lt HO_6.out _ rfl) | (show (Addr.add _ _).block < _; rw [add_block]; exact Kd.S_lt HO_6.out _ rfl) | exact Kd.S_lt HO_6.out _ rfl)) (by first | (rw [add_block]; exact (fun e_ => ((HL544_0.out.1 _ e_.symm).2) rfl)) | (show some (Addr.add _ _).block ≠ _; rw [add_block]; exact (fun e_ => ((HL544_0.out.1 _ e_.symm).2) rfl)) | exact (fun e_ => ((HL544_0.out.1 _ e_.symm).2) rfl) | exact (fun e_ => ((HL544_0.out.1 _ e_).2) rfl)))
                 (first | have HS5_ := cell_grown hg (hHeld.2.2.2.2.2.1) (by first | (rw [add_block]; exact (fun e_ => ((HL544_0.out.1 _ e_.symm).2) rfl)) | (show some (Addr.add _ _).block ≠ _; rw [add_block]; exact (fun e_ => ((HL544_0.out.1 _ e_.symm).2) rfl)) | exact (fun e_ => ((HL544_0.out.1 _ e_.symm).2) rfl) | exact (fun e_ => ((HL544_0.out.1 _ e_).2) rfl)) | have HS5_ := cell_grown hg (cell_unalloc (hHeld.2.2.2.2.2.1) (by first | (rw [add_block]; exact Kd.S_lt HO_6.out _ rfl) | (show (Addr.add _ _).block < _; rw [add_block]; exact Kd.S_lt HO_6.out _ rfl) | exact Kd.S_lt HO_6.out _ rfl)) (by first | (rw [add_block]; exact (fun e_ => ((HL544_0.out.1 _ e_.symm).2) rfl)) | (show some (Addr.add _ _).block ≠ _; rw [add_block]; exact (fun e_ => ((HL544_0.out.1 _ e_.symm).2) rfl)) | exact (fun e_ => ((HL544_0.out.1 _ e_.symm).2) rfl) | exact (fun e_ => ((HL544_0.out.1 _ e_).2) rfl)))
                 (first | have HS6_ := cell_grown hg (hHeld.2.2.2.2.2.2.1) (by first | (rw [add_block]; exact (fun e_ => ((HL544_0.out.1 _ e_.symm).2) rfl)) | (show some (Addr.add _ _).block ≠ _; rw [add_block]; exact (fun e_ => ((HL544_0.out.1 _ e_.symm).2) rfl)) | exact (fun e_ => ((HL544_0.out.1 _ e_.symm).2) rfl) | exact (fun e_ => ((HL544_0.out.1 _ e_).2) rfl)) | have HS6_ := cell_grown hg (cell_unalloc (hHeld.2.2.2.2.2.2.1) (by first | (rw [add_block]; exact Kd.S_lt HO_6.out _ rfl) | (show (Addr.add _ _).block < _; rw [add_block]; exact Kd.S_lt HO_6.out _ rfl) | exact Kd.S_lt HO_6.out _ rfl)) (by first | (rw [add_block]; exact (fun e_ => ((HL544_0.out.1 _ e_.symm).2) rfl)) | (show some (Addr.add _ _).block ≠ _; rw [add_block]; exact (fun e_ => ((HL544_0.out.1 _ e_.symm).2) rfl)) | exact (fun e_ => ((HL544_0.out.1 _ e_.symm).2) rfl) | exact (fun e_ => ((HL544_0.out.1 _ e_).2) rfl)))
                 (first | have HS7_ := cell_grown hg (hHeld.2.2.2.2.2.2.2.1) (by first | (rw [add_block]; exact (fun e_ => ((HL544_0.out.1 _ e_.symm).2) rfl)) | (show some (Addr.add _ _).block ≠ _; rw [add_block]; exact (fun e_ => ((HL544_0.out.1 _ e_.symm).2) rfl)) | exact (fun e_ => ((HL544_0.out.1 _ e_.symm).2) rfl) | exact (fun e_ => ((HL544_0.out.1 _ e_).2) rfl)) | have HS7_ := cell_grown hg (cell_unalloc (hHeld.2.2.2.2.2.2.2.1) (by first | (rw [add_block]; exact Kd.S_lt HO_6.out _ rfl) | (show (Addr.add _ _).block < _; rw [add_block]; exact Kd.S_lt HO_6.out _ rfl) | exact Kd.S_lt HO_6.out _ rfl)) (by first | (rw [add_block]; exact (fun e_ => ((HL544_0.out.1 _ e_.symm).2) rfl)) | (show some (Addr.add _ _).block ≠ _; rw [add_block]; exact (fun e_ => ((HL544_0.out.1 _ e_.symm).2) rfl)) | exact (fun e_ => ((HL544_0.out.1 _ e_.symm).2) rfl) | exact (fun e_ => ((HL544_0.out.1 _ e_).2) rfl)))
                 (first | have HS8_ := cell_grown hg (hHeld.2.2.2.2.2.2.2.2.1) (by first | (rw [add_block]; exact (fun e_ => ((HL544_0.out.1 _ e_.symm).2) rfl)) | (show some (Addr.add _ _).block ≠ _; rw [add_block]; exact (fun e_ => ((HL544_0.out.1 _ e_.symm).2) rfl)) | exact (fun e_ => ((HL544_0.out.1 _ e_.symm).2) rfl) | exact (fun e_ => ((HL544_0.out.1 _ e_).2) rfl)) | have HS8_ := cell_grown hg (cell_unalloc (hHeld.2.2.2.2.2.2.2.2.1) (by first | (rw [add_block]; exact Kd.S_lt HO_6.out _ rfl) | (show (Addr.add _ _).block < _; rw [add_block]; exact Kd.S_lt HO_6.out _ rfl) | exact Kd.S_lt HO_6.out _ rfl)) (by first | (rw [add_block]; exact (fun e_ => ((HL544_0.out.1 _ e_.symm).2) rfl)) | (show some (Addr.add _ _).block ≠ _; rw [add_block]; exact (fun e_ => ((HL544_0.out.1 _ e_.symm).2) rfl)) | exact (fun e_ => ((HL544_0.out.1 _ e_.symm).2) rfl) | exact (fun e_ => ((HL544_0.out.1 _ e_).2) rfl)))
                 (first | have HS9_ := cell_grown hg (hHeld.2.2.2.2.2.2.2.2.2.1) (by first | (rw [add_block]; exact (fun e_ => ((HL544_0.out.1 _ e_.symm).2) rfl)) | (show some (Addr.add _ _).block ≠ _; rw [add_block]; exact (fun e_ => ((HL544_0.out.1 _ e_.symm).2) rfl)) | exact (fun e_ => ((HL544_0.out.1 _ e_.symm).2) rfl) | exact (fun e_ => ((HL544_0.out.1 _ e_).2) rfl)) | have HS9_ := cell_grown hg (cell_unalloc (hHeld.2.2.2.2.2.2.2.2.2.1) (by first | (rw [add_block]; exact Kd.S_lt HO_6.out _ rfl) | (show (Addr.add _ _).block < _; rw [add_block]; exact Kd.S_lt HO_6.out _ rfl) | exact Kd.S_lt HO_6.out _ rfl)) (by first | (rw [add_block]; exact (fun e_ => ((HL544_0.out.1 _ e_.symm).2) rfl)) | (show some (Addr.add _ _).block ≠ _; rw [add_block]; exact (fun e_ => ((HL544_0.out.1 _ e_.symm).2) rfl)) | exact (fun e_ => ((HL544_0.out.1 _ e_.symm).2) rfl) | exact (fun e_ => ((HL544_0.out.1 _ e_).2) rfl)))
                 (first | have HS10_ := cell_grown hg (hHeld.2.2.2.2.2.2.2.2.2.2.1) (by first | (rw [add_block]; exact (fun e_ => ((HL544_0.out.1 _ e_.symm).2) rfl)) | (show some (Addr.add _ _).block ≠ _; rw [add_block]; exact (fun e_ => ((HL544_0.out.1 _ e_.symm).2) rfl)) | exact (fun e_ => ((HL544_0.out.1 _ e_.symm).2) rfl) | exact (fun e_ => ((HL544_0.out.1 _ e_).2) rfl)) | have HS10_ := cell_grown hg (cell_unalloc (hHeld.2.2.2.2.2.2.2.2.2.2.1) (by first | (rw [add_block]; exact Kd.S_lt HO_6.out _ rfl) | (show (Addr.add _ _).block < _; rw [add_block]; exact Kd.S_lt HO_6.out _ rfl) | exact Kd.S_lt HO_6.out _ rfl)) (by first | (rw [add_block]; exact (fun e_ => ((HL544_0.out.1 _ e_.symm).2) rfl)) | (show some (Addr.add _ _).block ≠ _; rw [add_block]; exact (fun e_ => ((HL544_0.out.1 _ e_.symm).2) rfl)) | exact (fun e_ => ((HL544_0.out.1 _ e_.symm).2) rfl) | exact (fun e_ => ((HL544_0.out.1 _ e_).2) rfl)))
                 (first | have HS11_ := cell_grown hg (hHeld.2.2.2.2.2.2.2.2.2.2.2.1) (by first | (rw [add_block]; exact (fun e_ => ((HL544_0.out.1 _ e_.symm).2) rfl)) | (show some (Addr.add _ _).block ≠ _; rw [add_block]; exact (fun e_ => ((HL544_0.out.1 _ e_.symm).2) rfl)) | exact (fun e_ => ((HL544_0.out.1 _ e_.symm).2) rfl) | exact (fun e_ => ((HL544_0.out.1 _ e_).2) rfl)) | have HS11_ := cell_grown hg (cell_unalloc (hHeld.2.2.2.2.2.2.2.2.2.2.2.1) (by first | (rw [add_block]; exact Kd.S_lt HO_6.out _ rfl) | (show (Addr.add _ _).block < _; rw [add_block]; exact Kd.S_lt HO_6.out _ rfl) | exact Kd.S_lt HO_6.out _ rfl)) (by first | (rw [add_block]; exact (fun e_ => ((HL544_0.out.1 _ e_.symm).2) rfl)) | (show some (Addr.add _ _).block ≠ _; rw [add_block]; exact (fun e_ => ((HL544_0.out.1 _ e_.symm).2) rfl)) | exact (fun e_ => ((HL544_0.out.1 _ e_.symm).2) rfl) | exact (fun e_ => ((HL544_0.out.1 _ e_).2) rfl)))
                 (first | have HS12_ := cell_grown hg (hHeld.2.2.2.2.2.2.2.2.2.2.2.2.1) (by first | (rw [add_block]; exact (fun e_ => ((HL544_0.out.1 _ e_.symm).2) rfl)) | (show some (Addr.add _ _).block ≠ _; rw [add_block]; exact (fun e_ => ((HL544_0.out.1 _ e_.symm).2) rfl)) | exact (fun e_ => ((HL544_0.out.1 _ e_.symm).2) rfl) | exact (fun e_ => ((HL544_0.out.1 _ e_).2) rfl)) | have HS12_ := cell_grown hg (cell_unalloc (hHeld.2.2.2.2.2.2.2.2.2.2.2.2.1) (by first | (rw [add_block]; exact Kd.S_lt HO_6.out _ rfl) | (show (Addr.add _ _).block < _; rw [add_block]; exact Kd.S_lt HO_6.out _ rfl) | exact Kd.S_lt HO_6.out _ rfl)) (by first | (rw [add_block]; exact (fun e_ => ((HL544_0.out.1 _ e_.symm).2) rfl)) | (show some (Addr.add _ _).block ≠ _; rw [add_block]; exact (fun e_ => ((HL544_0.out.1 _ e_.symm).2) rfl)) | exact (fun e_ => ((HL544_0.out.1 _ e_.symm).2) rfl) | exact (fun e_ => ((HL544_0.out.1 _ e_).2) rfl)))
                 (first | have HS13_ := cell_grown hg (hHeld.2.2.2.2.2.2.2.2.2.2.2.2.2.1) (by first | (rw [add_block]; exact (fun e_ => ((HL544_0.out.1 _ e_.symm).2) rfl)) | (show some (Addr.add _ _).block ≠ _; rw [add_block]; exact (fun e_ => ((HL544_0.out.1 _ e_.symm).2) rfl)) | exact (fun e_ => ((HL544_0.out.1 _ e_.symm).2) rfl) | exact (fun e_ => ((HL544_0.out.1 _ e_).2) rfl)) | have HS13_ := cell_grown hg (cell_unalloc (hHeld.2.2.2.2.2.2.2.2.2.2.2.2.2.1) (by first | (rw [add_block]; exact Kd.S_lt HO_6.out _ rfl) | (show (Addr.add _ _).block < _; rw [add_block]; exact Kd.S_lt HO_6.out _ rfl) | exact Kd.S_lt HO_6.out _ rfl)) (by first | (rw [add_block]; exact (fun e_ => ((HL544_0.out.1 _ e_.symm).2) rfl)) | (show some (Addr.add _ _).block ≠ _; rw [add_block]; exact (fun e_ => ((HL544_0.out.1 _ e_.symm).2) rfl)) | exact (fun e_ => ((HL544_0.out.1 _ e_.symm).2) rfl) | exact (fun e_ => ((HL544_0.out.1 _ e_).2) rfl)))
                 (first | have HS14_ := cell_grown hg (hHeld.2.2.2.2.2.2.2.2.2.2.2.2.2.2.1) (by first | (rw [add_block]; exact (fun e_ => ((HL544_0.out.1 _ e_.symm).2) rfl)) | (show some (Addr.add _ _).block ≠ _; rw [add_block]; exact (fun e_ => ((HL544_0.out.1 _ e_.symm).2) rfl)) | exact (fun e_ => ((HL544_0.out.1 _ e_.symm).2) rfl) | exact (fun e_ => ((HL544_0.out.1 _ e_).2) rfl)) | have HS14_ := cell_grown hg (cell_unalloc (hHeld.2.2.2.2.2.2.2.2.2.2.2.2.2.2.1) (by first | (rw [add_block]; exact Kd.S_lt HO_6.out _ rfl) | (show (Addr.add _ _).block < _; rw [add_block]; exact Kd.S_lt HO_6.out _ rfl) | exact Kd.S_lt HO_6.out _ rfl)) (by first | (rw [add_block]; exact (fun e_ => ((HL544_0.out.1 _ e_.symm).2) rfl)) | (show some (Addr.add _ _).block ≠ _; rw [add_block]; exact (fun e_ => ((HL544_0.out.1 _ e_.symm).2) rfl)) | exact (fun e_ => ((HL544_0.out.1 _ e_.symm).2) rfl) | exact (fun e_ => ((HL544_0.out.1 _ e_).2) rfl)))
                 (first | have HS15_ := cell_grown hg (hHeld.2.2.2.2.2.2.2.2.2.2.2.2.2.2.2.1) (by first | (rw [add_block]; exact (fun e_ => ((HL544_0.out.1 _ e_.symm).2) rfl)) | (show some (Addr.add _ _).block ≠ _; rw [add_block]; exact (fun e_ => ((HL544_0.out.1 _ e_.symm).2) rfl)) | exact (fun e_ => ((HL544_0.out.1 _ e_.symm).2) rfl) | exact (fun e_ => ((HL544_0.out.1 _ e_).2) rfl)) | have HS15_ := cell_grown hg (cell_unalloc (hHeld.2.2.2.2.2.2.2.2.2.2.2.2.2.2.2.1) (by first | (rw [add_block]; exact Kd.S_lt HO_6.out _ rfl) | (show (Addr.add _ _).block < _; rw [add_block]; exact Kd.S_lt HO_6.out _ rfl) | exact Kd.S_lt HO_6.out _ rfl)) (by first | (rw [add_block]; exact (fun e_ => ((HL544_0.out.1 _ e_.symm).2) rfl)) | (show some (Addr.add _ _).block ≠ _; rw [add_block]; exact (fun e_ => ((HL544_0.out.1 _ e_.symm).2) rfl)) | exact (fun e_ => ((HL544_0.out.1 _ e_.symm).2) rfl) | exact (fun e_ => ((HL544_0.out.1 _ e_).2) rfl)))
                 (first | have HS16_ := cell_grown hg (hHeld.2.2.2.2.2.2.2.2.2.2.2.2.2.2.2.2) (by first | (rw [add_block]; exact (fun e_ => ((HL544_0.out.1 _ e_.symm).2) rfl)) | (show some (Addr.add _ _).block ≠ _; rw [add_block]; exact (fun e_ => ((HL544_0.out.1 _ e_.symm).2) rfl)) | exact (fun e_ => ((HL544_0.out.1 _ e_.symm).2) rfl) | exact (fun e_ => ((HL544_0.out.1 _ e_).2) rfl)) | have HS16_ := cell_grown hg (cell_unalloc (hHeld.2.2.2.2.2.2.2.2.2.2.2.2.2.2.2.2) (by first | (rw [add_block]; exact Kd.S_lt HO_6.out _ rfl) | (show (Addr.add _ _).block < _; rw [add_block]; exact Kd.S_lt HO_6.out _ rfl) | exact Kd.S_lt HO_6.out _ rfl)) (by first | (rw [add_block]; exact (fun e_ => ((HL544_0.out.1 _ e_.symm).2) rfl)) | (show some (Addr.add _ _).block ≠ _; rw [add_block]; exact (fun e_ => ((HL544_0.out.1 _ e_.symm).2) rfl)) | exact (fun e_ => ((HL544_0.out.1 _ e_.symm).2) rfl) | exact (fun e_ => ((HL544_0.out.1 _ e_).2) rfl)))
                 rw [← Ny545.out] at ho
                 have n0_ := Aside0.mk (blk_grown (g := gb531) (o := .cells #[.int .i64 ((rd_T40 (rd_L2 l1 x19_1) x30_2).f0), .int .i64 ((rd_T40 (rd_L2 l1 x19_1) x30_2).f1), .int .i64 ((rd_T40 (rd_L2 l1 x19_1) x30_2).f2)] 40 (0, 0)) (by (with_reducible repeat (first | refine blk_drewN ?_ _ | refine blk_drew ?_ | refine blk_alloc ?_ _)); exact BK531.out) hg (Kd.R_away HL544_0.out (fun _ hk => hk.1)))
                 have n1_ := Aside0.mk (blk_grown (g := gb543) (o := .cells #[.int .i64 t532, .int .i64 t533, .int .i64 t534, .int .i64 t535, .int .i64 t536, .int .i64 t537, .int .i64 t538, .int .i64 t539, .bool t540, .int .i64 t541] 63 (0, 0)) (by (with_reducible repeat (first | refine blk_drewN ?_ _ | refine blk_drew ?_ | refine blk_alloc ?_ _)); exact BK543.out) hg (Kd.R_ne HL544_0.out BK543.out (by decide)))
                 have n2_ := Aside0.mk (hb)
                 have n3_ := Aside0.mk (Kd.H_grown (Kd.H_widen (by repeat (first | exact HH28.out | refine Kd.H_alloc ?_ _ | refine Kd.H_drewN ?_ _ | refine Kd.H_drew ?_))) hg (fun k_ e_ => .inl (UU28.out.1 k_ e_)))
                 have n4_ := Aside0.mk (ho)
                 clear BK531
                 clear BK543
                 clear HB
                 clear HH28
                 clear HO_6
                 clear UU28
                 clear HL544_0
                 have BK531 := n0_
                 have BK543 := n1_
                 have HB := n2_
                 have HH28 := n3_
                 have HO547 := n4_
                 clear n0_ n1_ n2_ n3_ n4_
                 clear ho hb hg hat
                 have p18 : 0 ≤ (x19_1 : Int) := of_decide_eq_true (by first | (with_reducible assumption) | assumption)
                 have q18 : (x19_1 : Int) < ((x6_2.length : Int) : Int) := of_decide_eq_true (by first | (with_reducible assumption) | assumption)
                 replace p18 := eq_true p18
                 replace q18 := eq_true q18
                 obtain ⟨Ao32, co32, eo32⟩ := Kd.R_slice HO547.out
                 (first | subst eo32 | (injection eo32 with f1_ f2_ f3_; have f4_ := f1_.symm; have f5_ := f3_.symm; clear f1_ f2_ f3_; subst f4_; subst f5_))
                 obtain ⟨_, _, hraw30, _, _, hcc30, _⟩ := Kd.H_raw HH28.out (of_decide_eq_true (by first | (with_reducible assumption) | assumption)) (by have h_ : (x19_1 : Int) < ((x6_2.length : Int) : Int) := of_decide_eq_true (by first | (with_reducible assumption) | assumption); first | exact h_ | (have e_ := (HN28.out); omega) | simpa using h_)
                 obtain ⟨_, hfr30⟩ := Kd.H_at HH28.out (of_decide_eq_true (by first | (with_reducible assumption) | assumption)) (by have h_ : (x19_1 : Int) < ((x6_2.length : Int) : Int) := of_decide_eq_true (by first | (with_reducible assumption) | assumption); first | exact h_ | (have e_ := (HN28.out); omega) | simpa using h_)
                 have hx30_0 := hcc30 0 _ rfl
                 have hf30_0 := hfr30 0
                 (try simp only [Nat.add_zero] at hx30_0 hf30_0)
                 (try rw [show (k65).sz = 14 from rfl] at hx30_0)
                 (try rw [show (k65).sz = 14 from rfl] at hf30_0)
                 have HP30 := Kd.S_seg0 HH28.out (of_decide_eq_true (by first | (with_reducible assumption) | assumption)) (by have h_ : (x19_1 : Int) < ((x6_2.length : Int) : Int) := of_decide_eq_true (by first | (with_reducible assumption) | assumption); first | exact h_ | (have e_ := (HN28.out); omega) | simpa using h_) (seg := [.slice Ao32 y545.length co32]) (j := 0) (show 1 ≤ 14 from by decide) (x' := (⟨y545, (⟨(⟨(rd_T65 x6_2 x19_1).f1.f0.f0, (rd_T65 x6_2 x19_1).f1.f0.f1, (rd_T65 x6_2 x19_1).f1.f0.f2⟩ : S40), (rd_T65 x6_2 x19_1).f1.f1, (rd_T65 x6_2 x19_1).f1.f2, (rd_T65 x6_2 x19_1).f1.f3, (rd_T65 x6_2 x19_1).f1.f4, (rd_T65 x6_2 x19_1).f1.f5, (rd_T65 x6_2 x19_1).f1.f6, (rd_T65 x6_2 x19_1).f1.f7⟩ : S63), (rd_T65 x6_2 x19_1).f2, (rd_T65 x6_2 x19_1).f3, (rd_T65 x6_2 x19_1).f4⟩ : S65)) (k65_mkM _ _ _ (⟨y545, (⟨(⟨(rd_T65 x6_2 x19_1).f1.f0.f0, (rd_T65 x6_2 x19_1).f1.f0.f1, (rd_T65 x6_2 x19_1).f1.f0.f2⟩ : S40), (rd_T65 x6_2 x19_1).f1.f1, (rd_T65 x6_2 x19_1).f1.f2, (rd_T65 x6_2 x19_1).f1.f3, (rd_T65 x6_2 x19_1).f1.f4, (rd_T65 x6_2 x19_1).f1.f5, (rd_T65 x6_2 x19_1).f1.f6, (rd_T65 x6_2 x19_1).f1.f7⟩ : S63), (rd_T65 x6_2 x19_1).f2, (rd_T65 x6_2 x19_1).f3, (rd_T65 x6_2 x19_1).f4⟩ : S65) HO547.out) (fun _ hk => hk)
                 clear hcc30 hfr30
                 have HNB531_go28 := Aside0.mk (show gb531 ≠ go28 from by have h_ := Kd.R_ne hraw30 BK531.out (by decide); intro e_; exact h_ (by rw [e_]; rfl))
                 have HNB543_go28 := Aside0.mk (show gb543 ≠ go28 from by have h_ := Kd.R_ne hraw30 BK543.out (by decide); intro e_; exact h_ (by rw [e_]; rfl))
                 have HS30 := HP30.1
                 rw [← Ny548.out] at HS30
                 have HQ30 := Aside0.mk HS30
                 obtain ⟨_, hgg30⟩ := Kd.R_typed hraw30 go28 rfl
                 have GG30_ := Aside0.mk hgg30
                 clear HP30 HS30 hgg30
                 refine hK.out _ _ ⟨(blk_cell BK531.out 0).trans rfl, (blk_cell BK531.out 1).trans rfl, (blk_cell BK531.out 2).trans rfl, HS3_, HS4_, HS5_, HS6_, HS7_, HS8_, HS9_, HS10_, HS11_, HS12_, HS13_, HS14_, HS15_, HS16_⟩ (fun hHeld => ?_)
                 clear hK K
                 refine norm_ (a' := ?_) ?_ ?_
                 rotate_left
                 ·
                  show Act.put _ (some 50) _ = _
                  simp only [Act.put, List.setIfInBounds_toArray, List.set_cons_zero, List.set_cons_succ, i64_w, i32_w]
                  rfl
                 refine pure_ (i := 10) (N := some 51) (v := ?_) (a' := ?_) #[true, true, true, true, true, true, true, true, true, true, true, false, false] rfl rfl (any_of HT_.out (by kernel_rfl)) (fun _ _ _ h => h) (Or.inl ⟨by rfl, ?_⟩) ?_ ?_
                 rotate_left
                 ·
                  intro w'
                  go_simp
                  with_reducible rfl
                 rotate_left
                 ·
                  simp only [Act.put, List.setIfInBounds_toArray, List.set_cons_zero, List.set_cons_succ, i64_w, i32_w]
                  rfl
                 refine pure_ (i := 11) (N := some 52) (v := ?_) (a' := ?_) #[true, true, true, true, true, true, true, true, true, true, true, true, false] rfl rfl (any_of HT_.out (by kernel_rfl)) (fun _ _ _ h => h) (Or.inl ⟨by rfl, ?_⟩) ?_ ?_
                 rotate_left
                 ·
                  intro w'
                  go_simp
                  with_reducible rfl
                 rotate_left
                 ·
                  simp only [Act.put, List.setIfInBounds_toArray, List.set_cons_zero, List.set_cons_succ, i64_w, i32_w]
                  rfl
                 refine last_ (i := 12) (N := none) #[true, true, true, true, true, true, true, true, true, true, true, true, true] rfl rfl (one_of HT_.out (by kernel_rfl)) (by decide) (fun K hK => ?_)
                 refine skip_ (w1 := ?_) (by rfl) rfl ?_ ?_
                 rotate_left
                 ·
                  go_simp
                  rfl
                 refine hK.out _ _ ?_
                 clear hK K
                 refine done_ (done_of HT_.out (by kernel_rfl)) ?_
                 try go_wp2
                 go_roundg k2
                 case measure => have := HK1.out; have := HK2.out; omega
                 case rel => exact ⟨(y548), (wrap64 (x30_2 + 1)), (by first | rfl | (simp; done) | (simp [*]; done)), H', ⟨by have := HK1.out; have := HK2.out; omega⟩, ⟨by (with_reducible repeat (first | apply Kd.S_alloc | apply Kd.S_drewN | apply Kd.S_drew)); exact Kd.S_mono HQ30.out (fun _ hk => trivial)⟩, ⟨by repeat (first | (with_reducible first | exact HB.out | apply below_alloc | apply pw_below_drewN | apply below_drew1 | refine below_set ?_ GB28.out | refine below_set ?_ GE531.out | refine below_set ?_ GE543.out) | exact HB.out)⟩⟩
                ·
                 rw [if_neg c17] at H
                 exact absurd H (by simp)
               ·
                rw [if_neg c16] at H
                exact absurd H (by simp)
              ·
               rw [if_neg c15] at H
               exact absurd H (by simp)
             ·
              replace c14 := Bool.eq_false_iff.mpr c14
              subst c14
              have H1 : (play_start.l1 k2 a0 l1 x6_2 (wrap64 (x7_1 + ((rd_L2 l1 x19_1).length : Int))) x19_1 l1 (l1.length : Int) x19_1 (rd_L2 l1 x19_1) ((rd_L2 l1 x19_1).length : Int) (wrap64 (x30_2 + 1))) = some (r1, r2) := by rw [if_neg (show ¬ (false = true) by decide)] at H; exact H
              clear H
              have H := H1
              clear H1
              have H' := Aside0.mk H
              clear H
              have p530 : 0 ≤ (x30_2 : Int) := of_decide_eq_true (by first | (with_reducible assumption) | assumption)
              have q530 : x30_2 < ((rd_L2 l1 x19_1).length : Int) := of_decide_eq_true (by first | (with_reducible assumption) | assumption)
              obtain ⟨ad530, e530, hx530_0, hx530_1, hx530_2⟩ := at_T40 HR529_0.out x30_2 p530 q530
              cases e530
              replace hx530_0 := (HB.out.cell (World.block_lt_of_cell? w _ hx530_0)).trans hx530_0
              replace hx530_1 := (HB.out.cell (World.block_lt_of_cell? w _ hx530_1)).trans hx530_1
              replace hx530_2 := (HB.out.cell (World.block_lt_of_cell? w _ hx530_2)).trans hx530_2
              replace p530 := eq_true p530
              replace q530 := eq_true q530
              go_wp2_with (first | ((with_reducible refine gate_dst (N := 11) rfl ?_); (try (refine gate_guard (by rfl) ?_; dsimp only)); refine box_event ?hg (N := 11) ?hd (cs := #[.int .i64 0, .int .i64 0, .int .i64 0]) (t := 40) ?hr ?_; (case hd => rfl); (case hg => rfl); (case hr => first | (go_simp; done) | (go_simp; rfl)); intro gb531 hg w33 hbox hb; have n0_ := Aside0.mk (Kd.S_below (Kd.S_elderB (by (with_reducible repeat (first | apply Kd.S_alloc | apply Kd.S_drewN | apply Kd.S_drew)); exact HO_6.out) gb531 (Nat.le_of_eq hg.symm)) hb); have n1_ := Aside0.mk (below_step (by repeat (first | (with_reducible first | exact HB.out | apply below_alloc | apply pw_below_drewN | apply below_drew1) | exact HB.out)) hb); have n2_ := Aside0.mk (hbox); have n3_ := Aside0.mk ((by rw [hg]; exact (below_size (by repeat (first | (with_reducible first | exact HB.out | apply below_alloc | apply pw_below_drewN | apply below_drew1) | exact HB.out))) : w.heap.size ≤ gb531)); have n4_ := Aside0.mk ((by rw [hg]; exact (below_size (by repeat (first | (with_reducible first | exact HB.out | apply below_alloc | apply pw_below_drewN | apply below_drew1) | exact HB.out))) : w.heap.size ≤ gb531)); clear HO_6; clear HB; have HO_6 := n0_; have HB := n1_; have BK531 := n2_; have GW531 := n3_; have GE531 := n4_; clear n0_ n1_ n2_ n3_ n4_; clear hb hbox hg; have hcz34_0 : w33.cell? ⟨gb531, 0, none⟩ = some (.int .i64 0) := (blk_cell BK531.out 0).trans rfl; have hcz34_1 : w33.cell? ⟨gb531, 1, none⟩ = some (.int .i64 0) := (blk_cell BK531.out 1).trans rfl; have hcz34_2 : w33.cell? ⟨gb531, 2, none⟩ = some (.int .i64 0) := (blk_cell BK531.out 2).trans rfl; have hfz34_0 := blk_frozen BK531.out 0; have hfz34_1 := blk_frozen BK531.out 1; have hfz34_2 := blk_frozen BK531.out 2) | ((with_reducible refine gate_callee (f := 33) rfl ?_); refine goesL_ (some 37) rfl rfl Tryd.func33 (by kernel_rfl) rfl #[.agg #[.int .i64 ((rd_T40 (rd_L2 l1 x19_1) x30_2).f0), .int .i64 ((rd_T40 (rd_L2 l1 x19_1) x30_2).f1), .int .i64 ((rd_T40 (rd_L2 l1 x19_1) x30_2).f2)], .int .i64 a0] rfl (by (try simp only [List.map_toArray, List.map_cons, List.map_nil]); first | done | rfl | (simp only [List.length_drop, List.length_take]; rfl)) ?_; (with_reducible refine (cuf_Begin.calls ((rd_T40 (rd_L2 l1 x19_1) x30_2).f0) ((rd_T40 (rd_L2 l1 x19_1) x30_2).f1) ((rd_T40 (rd_L2 l1 x19_1) x30_2).f2) a0 t532 t533 t534 t535 t536 t537 t538 t539 t540 t541 false _ A13.out).mono ?_); rintro e w35 ⟨rfl, hb⟩; refine ⟨_, rfl, ?_⟩; have n0_ := Aside0.mk (Kd.S_below (by (with_reducible repeat (first | apply Kd.S_alloc | apply Kd.S_drewN | apply Kd.S_drew)); exact (Kd.S_mono (Kd.S_far (p := ⟨gb531, 2, none⟩) (Kd.S_far (p := ⟨gb531, 1, none⟩) (Kd.S_far (p := ⟨gb531, 0, none⟩) (Kd.S_mono HO_6.out (fun k_ hk => (⟨hk, hk.2⟩ : _ ∧ k_ ≠ gb531))) (fun _ hk => hk.2) (.int .i64 ((rd_T40 (rd_L2 l1 x19_1) x30_2).f0))) (fun _ hk => hk.2) (.int .i64 ((rd_T40 (rd_L2 l1 x19_1) x30_2).f1))) (fun _ hk => hk.2) (.int .i64 ((rd_T40 (rd_L2 l1 x19_1) x30_2).f2))) (fun _ h_ => h_.1))) hb); have n1_ := Aside0.mk (blk_below (g := gb531) (o := .cells #[.int .i64 ((rd_T40 (rd_L2 l1 x19_1) x30_2).f0), .int .i64 ((rd_T40 (rd_L2 l1 x19_1) x30_2).f1), .int .i64 ((rd_T40 (rd_L2 l1 x19_1) x30_2).f2)] 40 (0, 0)) (by (with_reducible repeat (first | refine blk_drewN ?_ _ | refine blk_drew ?_ | refine blk_alloc ?_ _)); refine blk_put (cs := #[.int .i64 ((rd_T40 (rd_L2 l1 x19_1) x30_2).f0), .int .i64 ((rd_T40 (rd_L2 l1 x19_1) x30_2).f1), .int .i64 0]) ?_ 2 _ rfl; (with_reducible repeat (first | refine blk_drewN ?_ _ | refine blk_drew ?_ | refine blk_alloc ?_ _)); refine blk_put (cs := #[.int .i64 ((rd_T40 (rd_L2 l1 x19_1) x30_2).f0), .int .i64 0, .int .i64 0]) ?_ 1 _ rfl; (with_reducible repeat (first | refine blk_drewN ?_ _ | refine blk_drew ?_ | refine blk_alloc ?_ _)); refine blk_put (cs := #[.int .i64 0, .int .i64 0, .int .i64 0]) ?_ 0 _ rfl; (with_reducible repeat (first | refine blk_drewN ?_ _ | refine blk_drew ?_ | refine blk_alloc ?_ _)); exact BK531.out) hb); have n2_ := Aside0.mk (below_step (by repeat (first | (with_reducible first | exact HB.out | apply below_alloc | apply pw_below_drewN | apply below_drew1 | refine below_set ?_ GE531.out) | exact HB.out)) hb); clear HO_6; clear BK531; clear HB; have HO_6 := n0_; have BK531 := n1_; have HB := n2_; clear n0_ n1_ n2_; (try clear hb); (try clear hb2); (try clear hk); (try clear hi)) | ((with_reducible refine gate_dst (N := 12) rfl ?_); (try (refine gate_guard (by rfl) ?_; dsimp only)); refine box_event ?hg (N := 12) ?hd (cs := #[.int .i64 0, .int .i64 0, .int .i64 0, .int .i64 0, .int .i64 0, .int .i64 0, .int .i64 0, .int .i64 0, .bool false, .int .i64 0]) (t := 63) ?hr ?_; (case hd => rfl); (case hg => rfl); (case hr => first | (go_simp; done) | (go_simp; rfl)); intro gb543 hg w36 hbox hb; have n0_ := Aside0.mk (Kd.S_below (by (with_reducible repeat (first | apply Kd.S_alloc | apply Kd.S_drewN | apply Kd.S_drew)); exact HO_6.out) hb); have n1_ := Aside0.mk (blk_below (g := gb531) (o := .cells #[.int .i64 ((rd_T40 (rd_L2 l1 x19_1) x30_2).f0), .int .i64 ((rd_T40 (rd_L2 l1 x19_1) x30_2).f1), .int .i64 ((rd_T40 (rd_L2 l1 x19_1) x30_2).f2)] 40 (0, 0)) (by (with_reducible repeat (first | refine blk_drewN ?_ _ | refine blk_drew ?_ | refine blk_alloc ?_ _)); exact BK531.out) hb); have n2_ := Aside0.mk (below_step (by repeat (first | (with_reducible first | exact HB.out | apply below_alloc | apply pw_below_drewN | apply below_drew1 | refine below_set ?_ GE531.out) | exact HB.out)) hb); have n3_ := Aside0.mk (hbox); have n4_ := Aside0.mk ((by rw [hg]; exact (below_size (by repeat (first | (with_reducible first | exact HB.out | apply below_alloc | apply pw_below_drewN | apply below_drew1 | refine below_set ?_ GE531.out) | exact HB.out))) : w.heap.size ≤ gb543)); have n5_ := Aside0.mk ((by rw [hg]; exact (below_size (by repeat (first | (with_reducible first | exact HB.out | apply below_alloc | apply pw_below_drewN | apply below_drew1 | refine below_set ?_ GE531.out) | exact HB.out))) : w.heap.size ≤ gb543)); have n6_ := Aside0.mk ((by rw [hg]; exact Nat.ne_of_lt (blk_lt (g := gb531) (o := .cells #[.int .i64 ((rd_T40 (rd_L2 l1 x19_1) x30_2).f0), .int .i64 ((rd_T40 (rd_L2 l1 x19_1) x30_2).f1), .int .i64 ((rd_T40 (rd_L2 l1 x19_1) x30_2).f2)] 40 (0, 0)) (by (with_reducible repeat (first | refine blk_drewN ?_ _ | refine blk_drew ?_ | refine blk_alloc ?_ _)); exact BK531.out)) : gb531 ≠ gb543)); have n7_ := Aside0.mk ((by rw [hg]; exact Nat.ne_of_gt (blk_lt (g := gb531) (o := .cells #[.int .i64 ((rd_T40 (rd_L2 l1 x19_1) x30_2).f0), .int .i64 ((rd_T40 (rd_L2 l1 x19_1) x30_2).f1), .int .i64 ((rd_T40 (rd_L2 l1 x19_1) x30_2).f2)] 40 (0, 0)) (by (with_reducible repeat (first | refine blk_drewN ?_ _ | refine blk_drew ?_ | refine blk_alloc ?_ _)); exact BK531.out)) : gb543 ≠ gb531)); clear HO_6; clear BK531; clear HB; have HO_6 := n0_; have BK531 := n1_; have HB := n2_; have BK543 := n3_; have GW543 := n4_; have GE543 := n5_; have NB531_543 := n6_; have NB543_531 := n7_; clear n0_ n1_ n2_ n3_ n4_ n5_ n6_ n7_; clear hb hbox hg; have hnb37 := NB543_531.out; have hnc37 := NB531_543.out; have hcz38_0 : w36.cell? ⟨gb543, 0, none⟩ = some (.int .i64 0) := (blk_cell BK543.out 0).trans rfl; have hcz38_1 : w36.cell? ⟨gb543, 1, none⟩ = some (.int .i64 0) := (blk_cell BK543.out 1).trans rfl; have hcz38_2 : w36.cell? ⟨gb543, 2, none⟩ = some (.int .i64 0) := (blk_cell BK543.out 2).trans rfl; have hcz38_3 : w36.cell? ⟨gb543, 3, none⟩ = some (.int .i64 0) := (blk_cell BK543.out 3).trans rfl; have hcz38_4 : w36.cell? ⟨gb543, 4, none⟩ = some (.int .i64 0) := (blk_cell BK543.out 4).trans rfl; have hcz38_5 : w36.cell? ⟨gb543, 5, none⟩ = some (.int .i64 0) := (blk_cell BK543.out 5).trans rfl; have hcz38_6 : w36.cell? ⟨gb543, 6, none⟩ = some (.int .i64 0) := (blk_cell BK543.out 6).trans rfl; have hcz38_7 : w36.cell? ⟨gb543, 7, none⟩ = some (.int .i64 0) := (blk_cell BK543.out 7).trans rfl; have hcz38_8 : w36.cell? ⟨gb543, 8, none⟩ = some (.bool false) := (blk_cell BK543.out 8).trans rfl; have hcz38_9 : w36.cell? ⟨gb543, 9, none⟩ = some (.int .i64 0) := (blk_cell BK543.out 9).trans rfl; have hfz38_0 := blk_frozen BK543.out 0; have hfz38_1 := blk_frozen BK543.out 1; have hfz38_2 := blk_frozen BK543.out 2; have hfz38_3 := blk_frozen BK543.out 3; have hfz38_4 := blk_frozen BK543.out 4; have hfz38_5 := blk_frozen BK543.out 5; have hfz38_6 := blk_frozen BK543.out 6; have hfz38_7 := blk_frozen BK543.out 7; have hfz38_8 := blk_frozen BK543.out 8; have hfz38_9 := blk_frozen BK543.out 9))
              go_roundg k2
              case measure => have := HK1.out; have := HK2.out; omega
              case rel => exact ⟨(x6_2), (wrap64 (x30_2 + 1)), (by first | rfl | (simp; done) | (simp [*]; done)), H', ⟨by have := HK1.out; have := HK2.out; omega⟩, ⟨by (with_reducible repeat (first | apply Kd.S_alloc | apply Kd.S_drewN | apply Kd.S_drew)); exact Kd.S_mono (Kd.S_far (p := ⟨gb543, 9, none⟩) (Kd.S_far (p := ⟨gb543, 8, none⟩) (Kd.S_far (p := ⟨gb543, 7, none⟩) (Kd.S_far (p := ⟨gb543, 6, none⟩) (Kd.S_far (p := ⟨gb543, 5, none⟩) (Kd.S_far (p := ⟨gb543, 4, none⟩) (Kd.S_far (p := ⟨gb543, 3, none⟩) (Kd.S_far (p := ⟨gb543, 2, none⟩) (Kd.S_far (p := ⟨gb543, 1, none⟩) (Kd.S_far (p := ⟨gb543, 0, none⟩) (Kd.S_types HO_6.out BK543.out (by decide)) (fun _ hk => hk.2) (.int .i64 t532)) (fun _ hk => hk.2) (.int .i64 t533)) (fun _ hk => hk.2) (.int .i64 t534)) (fun _ hk => hk.2) (.int .i64 t535)) (fun _ hk => hk.2) (.int .i64 t536)) (fun _ hk => hk.2) (.int .i64 t537)) (fun _ hk => hk.2) (.int .i64 t538)) (fun _ hk => hk.2) (.int .i64 t539)) (fun _ hk => hk.2) (.bool t540)) (fun _ hk => hk.2) (.int .i64 t541)) (fun _ hk => trivial)⟩, ⟨by repeat (first | (with_reducible first | exact HB.out | apply below_alloc | apply pw_below_drewN | apply below_drew1 | refine below_set ?_ GE531.out | refine below_set ?_ GE543.out) | exact HB.out)⟩⟩
            ·
             rw [if_neg c12] at H
             exact absurd H (by simp)
           ·
            rw [if_neg c11] at H
            exact absurd H (by simp)
          ·
           rw [if_neg c10] at H
           have c10b0 : decide (x30_2 < ((rd_L2 l1 x19_1).length : Int)) = false := decide_eq_false c10
           clear c10
           have H' := Aside0.mk H
           clear H
           go_wp2
           go_roundg k2
           case measure => have := HK1.out; have := HK2.out; omega
           case rel => exact ⟨(x6_2), ((wrap64 (x7_1 + ((rd_L2 l1 x19_1).length : Int)))), (wrap64 (x19_1 + 1)), (by first | rfl | (simp; done) | (simp [*]; done)), (by first | rfl | (simp; done) | (simp [*]; done)), H', ⟨by have := HK1.out; have := HK2.out; omega⟩, ⟨by (with_reducible repeat (first | apply Kd.S_alloc | apply Kd.S_drewN | apply Kd.S_drew)); exact HO_6.out⟩, ⟨by repeat (first | (with_reducible first | exact HB.out | apply below_alloc | apply pw_below_drewN | apply below_drew1) | exact HB.out)⟩⟩
       ·
        rw [if_neg c9] at H
        exact absurd H (by simp)
      ·
       rw [if_neg c8] at H
       exact absurd H (by simp)
     ·
      rw [if_neg c7] at H
      have c7b0 : decide (x19_1 < (l1.length : Int)) = false := decide_eq_false c7
      clear c7
      by_cases c39 : a0 ≤ 4096
      ·
       rw [if_pos c39] at H
       have c39b0 : decide (a0 ≤ 4096) = true := decide_eq_true c39
       clear c39
       by_cases c40 : (l1.length : Int) ≤ 64
       ·
        rw [if_pos c40] at H
        have c40b0 : decide ((l1.length : Int) ≤ 64) = true := decide_eq_true c40
        have c40b1 : decide (l1.length ≤ 64) = true := decide_eq_true (by omega)
        clear c40
        simp only [Option.some.injEq, Prod.mk.injEq] at H
        obtain ⟨rfl, rfl⟩ := H
        go_wp2
        go_ret2
        exact ⟨_, by first | rfl | (simp [errW_none, errW_some] <;> rfl) | (simp [*, errW_none, errW_some] <;> rfl), by (with_reducible repeat (first | apply Kd.S_alloc | apply Kd.S_drewN | apply Kd.S_drew)); exact HO_6.out, by repeat (first | (with_reducible first | exact HB.out | apply below_alloc | apply pw_below_drewN | apply below_drew1) | exact HB.out)⟩
       ·
        rw [if_neg c40] at H
        have c40b0 : decide ((l1.length : Int) ≤ 64) = false := decide_eq_false c40
        have c40b1 : decide (l1.length ≤ 64) = false := decide_eq_false (by omega)
        clear c40
        simp only [Option.some.injEq, Prod.mk.injEq] at H
        obtain ⟨rfl, rfl⟩ := H
        go_wp2
        go_ret2
        exact ⟨_, by first | rfl | (simp [errW_none, errW_some] <;> rfl) | (simp [*, errW_none, errW_some] <;> rfl), by (with_reducible repeat (first | apply Kd.S_alloc | apply Kd.S_drewN | apply Kd.S_drew)); exact HO_6.out, by repeat (first | (with_reducible first | exact HB.out | apply below_alloc | apply pw_below_drewN | apply below_drew1) | exact HB.out)⟩
      ·
       rw [if_neg c39] at H
       have c39b0 : decide (a0 ≤ 4096) = false := decide_eq_false c39
       clear c39
       simp only [Option.some.injEq, Prod.mk.injEq] at H
       obtain ⟨rfl, rfl⟩ := H
       go_wp2
       go_ret2
       exact ⟨_, by first | rfl | (simp [errW_none, errW_some] <;> rfl) | (simp [*, errW_none, errW_some] <;> rfl), by (with_reducible repeat (first | apply Kd.S_alloc | apply Kd.S_drewN | apply Kd.S_drew)); exact HO_6.out, by repeat (first | (with_reducible first | exact HB.out | apply below_alloc | apply pw_below_drewN | apply below_drew1) | exact HB.out)⟩
  ·
   rw [if_neg c4] at H
   exact absurd H (by simp)
 ·
  rw [if_neg c3] at H
  exact absurd H (by simp)

-- NOT PRINTED: function 25 (play_worker_step)

-- NOT PRINTED: function 26 (play_worker_event)

end Go.Proofs.YtmaiicpaalbcfaaDoor.P
