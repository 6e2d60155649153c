/-
The plain Lean functions of Go functions of this seat, and proofs that the calls of the machine come to them; no condition beside those named in each theorem.
-/
import Derived.Test.YtmgfkdnoclmbgaaDoorPx0
namespace Go.Proofs.YtmgfkdnoclmbgaaDoor.P
open Go.RowKit Go.Proofs.YtmgfkdnoclmbgaaDoorW.PrintWords Go.Proofs.YtmgfkdnoclmbgaaDoorW.PrintLast Go.Proofs.YtmgfkdnoclmbgaaDoorW.PrintMore
attribute [local go_sem] max2_int min2_int max_two min_two max_three min_three max_four min_four   -- for this text's walks alone
set_option linter.unusedVariables false
set_option linter.unusedSimpArgs false

/-! ### warplaw8_Keys: function 13 -/
mutual
def warplaw8_Keys.l0 : Nat → List (List Int) → List (List (S26)) → Int → Option ((List (List (S26))))
 | 0, _, _, _ => none
 | k + 1, x0, x3, x4 => if x4 < (x0.length : Int) then (warplaw8_Keys.j1 k x0 x3 x4 (decide (x4 < 10))) else (warplaw8_Keys.j1 k x0 x3 x4 false)
def warplaw8_Keys.j1 : Nat → List (List Int) → List (List (S26)) → Int → Bool → Option ((List (List (S26))))
 | 0, _, _, _, _ => none
 | k + 1, x0, x3, x4, x15 => if x15 = true then (warplaw8_Keys.l1 k x0 x3 x4 ([] : List (S26)) 0) else (some x3)
def warplaw8_Keys.l1 : Nat → List (List Int) → List (List (S26)) → Int → List (S26) → Int → Option ((List (List (S26))))
 | 0, _, _, _, _, _ => none
 | k + 1, x0, x3, x4, x5, x6 => if 0 ≤ x4 then (if x4 < (x0.length : Int) then (if x6 < ((rd_L8 x0 x4).length : Int) then (if x6 < 12 then (if 0 ≤ x6 then ((some (([(⟨#[73, 110, 116]⟩ : ByteArray), (⟨#[45, 62]⟩ : ByteArray), (⟨#[44]⟩ : ByteArray)] : List ByteArray) : List ByteArray)).bind fun y158 => (if 0 ≤ (Int.tmod (wrap64 (rd (rd_L8 x0 x4) x6)) 3) then (if (Int.tmod (wrap64 (rd (rd_L8 x0 x4) x6)) 3) < (y158.length : Int) then (if x5.length < 4398046511104 then (warplaw8_Keys.l1 k x0 x3 x4 (x5 ++ [(⟨rdOf ByteArray.empty y158 (Int.tmod (wrap64 (rd (rd_L8 x0 x4) x6)) 3), Int.tmod (wrap64 (Int.tdiv (wrap64 (rd (rd_L8 x0 x4) x6)) 3)) 4, Int.tmod (wrap64 (Int.tdiv (wrap64 (rd (rd_L8 x0 x4) x6)) 12)) 3⟩ : S26)]) (wrap64 (x6 + 1))) else (none)) else (none)) else (none))) else (none)) else (if x3.length < 5864062014805 then (warplaw8_Keys.l0 k x0 (x3 ++ [x5]) (wrap64 (x4 + 1))) else (none))) else (if x3.length < 5864062014805 then (warplaw8_Keys.l0 k x0 (x3 ++ [x5]) (wrap64 (x4 + 1))) else (none))) else (none)) else (none)
end
def warplaw8_Keys.f (k : Nat) (l0 : List (List Int)) : Option ((List (List (S26)))) := warplaw8_Keys.l0 k l0 ([] : List (List (S26))) 0
theorem warplaw8_Keys.mono_l : ∀ k, (∀ y0 y1 y2, LeO (warplaw8_Keys.l0 k y0 y1 y2) (warplaw8_Keys.l0 (k + 1) y0 y1 y2)) ∧ (∀ y0 y1 y2 y3, LeO (warplaw8_Keys.j1 k y0 y1 y2 y3) (warplaw8_Keys.j1 (k + 1) y0 y1 y2 y3)) ∧ (∀ y0 y1 y2 y3 y4, LeO (warplaw8_Keys.l1 k y0 y1 y2 y3 y4) (warplaw8_Keys.l1 (k + 1) y0 y1 y2 y3 y4))
 | 0 => ⟨fun _ _ _ r h => by simp [warplaw8_Keys.l0] at h, fun _ _ _ _ r h => by simp [warplaw8_Keys.j1] at h, fun _ _ _ _ _ r h => by simp [warplaw8_Keys.l1] at h⟩
 | k + 1 => by
  obtain ⟨ih0, ih1, ih2⟩ := warplaw8_Keys.mono_l k
  refine ⟨?_, ?_, ?_⟩
  ·
   intro y0 y1 y2
   unfold warplaw8_Keys.l0
   repeat' first
   | (with_reducible exact ih0 _ _ _)
   | (with_reducible exact ih1 _ _ _ _)
   | (with_reducible exact ih2 _ _ _ _ _)
   | (with_reducible exact LeO.refl _)
   | (with_reducible exact LeO.none _)
   | (with_reducible refine LeO.ite ?_ ?_)
   | (with_reducible refine LeO.bind ?_ (fun _ => ?_))
   | exact ih0 _ _ _
   | exact ih1 _ _ _ _
   | exact ih2 _ _ _ _ _
   | exact LeO.none _
   | refine LeO.ite ?_ ?_
   | refine LeO.bind ?_ (fun _ => ?_)
  ·
   intro y0 y1 y2 y3
   unfold warplaw8_Keys.j1
   repeat' first
   | (with_reducible exact ih0 _ _ _)
   | (with_reducible exact ih1 _ _ _ _)
   | (with_reducible exact ih2 _ _ _ _ _)
   | (with_reducible exact LeO.refl _)
   | (with_reducible exact LeO.none _)
   | (with_reducible refine LeO.ite ?_ ?_)
   | (with_reducible refine LeO.bind ?_ (fun _ => ?_))
   | exact ih0 _ _ _
   | exact ih1 _ _ _ _
   | exact ih2 _ _ _ _ _
   | exact LeO.none _
   | refine LeO.ite ?_ ?_
   | refine LeO.bind ?_ (fun _ => ?_)
  ·
   intro y0 y1 y2 y3 y4
   unfold warplaw8_Keys.l1
   repeat' first
   | (with_reducible exact ih0 _ _ _)
   | (with_reducible exact ih1 _ _ _ _)
   | (with_reducible exact ih2 _ _ _ _ _)
   | (with_reducible exact LeO.refl _)
   | (with_reducible exact LeO.none _)
   | (with_reducible refine LeO.ite ?_ ?_)
   | (with_reducible refine LeO.bind ?_ (fun _ => ?_))
   | exact ih0 _ _ _
   | exact ih1 _ _ _ _
   | exact ih2 _ _ _ _ _
   | exact LeO.none _
   | refine LeO.ite ?_ ?_
   | refine LeO.bind ?_ (fun _ => ?_)
theorem warplaw8_Keys.mono : ∀ a0 k, LeO (warplaw8_Keys.f k a0) (warplaw8_Keys.f (k + 1) a0) := by
 intro a0 k
 obtain ⟨ih0, ih1, ih2⟩ := warplaw8_Keys.mono_l k
 unfold warplaw8_Keys.f
 repeat' first
  | (with_reducible exact ih0 _ _ _)
  | (with_reducible exact ih1 _ _ _ _)
  | (with_reducible exact ih2 _ _ _ _ _)
  | (with_reducible exact LeO.refl _)
  | (with_reducible exact LeO.none _)
  | (with_reducible refine LeO.ite ?_ ?_)
  | (with_reducible refine LeO.bind ?_ (fun _ => ?_))
  | exact ih0 _ _ _
  | exact ih1 _ _ _ _
  | exact ih2 _ _ _ _ _
  | exact LeO.none _
  | refine LeO.ite ?_ ?_
  | refine LeO.bind ?_ (fun _ => ?_)
set_option maxHeartbeats 8000000 in
set_option maxRecDepth 100000 in
theorem warplaw8_Keys.calls (k : Nat) (A0 : Option Addr) (c0 : Nat) (l0 : List (List Int)) (r : List (List (S26))) (w : World) (hr0 : Kd.C (Kd.slice 5 (Kd.int .u8)) w A0 l0.length l0) (hc0 : l0.length ≤ c0) (h : warplaw8_Keys.f k l0 = some r) :
 Calls Tryd.prog 13 #[.slice A0 l0.length c0] w fun e w' => ∃ v0_ : Value, e = .returned (v0_) ∧ Kd.S (Kd.slice 26 k26) 24 w' w.heap.size (fun _ => True) v0_ r ∧ Below w.heap.size w w' := by
 have hu26 := Tryd.underlying26
 have HR0 := Aside0.mk hr0
 have HC0 := Aside0.mk hc0
 clear hr0 hc0
 have HB := Aside0.mk (Below.refl w.heap.size w)
 have H : (warplaw8_Keys.l0 k l0 ([] : List (List (S26))) 0) = some r := h
 clear h
 have H' := Aside0.mk H
 clear H
 go_enter Tryd.func13, Tryd.ntmps13
 go_wp2
 go_loopg [3, 4] k (fun kq v3 v4 w' => ∃ (x3_1 : List (List (S26))) (x4_1 : Int), v4 = .int .i64 x4_1 ∧ Aside0 (warplaw8_Keys.l0 kq l0 x3_1 x4_1 = some r) ∧ Aside0 (kq ≤ k) ∧ Aside0 (Kd.S (Kd.slice 26 k26) 24 w' w.heap.size (fun _ => True) v3 x3_1) ∧ Aside0 (Below w.heap.size w w'))
 case atStart => exact ⟨(([] : List (List (S26)))), (0), (by first | rfl | (simp; done) | (simp [*]; done)), H', ⟨Nat.le_refl _⟩, ⟨by first | exact Kd.S_nil _ _ _ _ _ | exact Kd.N_nil _ _ _ _ _ | exact Kd.V_nil _ _ _ _ _ | exact Kd.Q_nil _ _ _ _ _ | exact Kd.R_nil _ _ _ _ _⟩, ⟨by repeat (first | (with_reducible first | exact HB.out | apply below_alloc | apply pw_below_drewN | apply below_drew1) | exact HB.out)⟩⟩
 case round =>
  clear H'
  try clear c1
  obtain ⟨x3_1, x4_1, rfl, HA, HK1, HO_3, HB⟩ := hrel
  cases gk with
  | zero => exact absurd HA.out (by simp [warplaw8_Keys.l0])
  | succ k1 =>
   have H := HA.out
   clear HA
   simp only [warplaw8_Keys.l0] at H
   have HC2 := Aside0.mk H
   clear H
   go_upto_region 3 with (fail)
   go_cut [15] (fun v15 wc => ∃ (kq : Nat) (x15_1 : Bool), v15 = .bool x15_1 ∧ Aside0 (warplaw8_Keys.j1 kq l0 x3_1 x4_1 x15_1 = some r) ∧ Aside0 (kq ≤ k1) ∧ Aside0 (Kd.S (Kd.slice 26 k26) 24 wc w.heap.size (fun _ => True) u3 x3_1) ∧ Aside0 (Below w.heap.size w wc))
   case first =>
    have H := HC2.out
    clear HC2
    by_cases c3 : x4_1 < (l0.length : Int)
    ·
     rw [if_pos c3] at H
     have c3b0 : decide (x4_1 < (l0.length : Int)) = true := decide_eq_true c3
     clear c3
     (first | rw [c3b0] | (simp only [i64_w, i32_w]; rw [c3b0]) | skip)
     have H' := Aside0.mk H
     clear H
     go_wp2
     go_meet
     case rel => exact ⟨_, (decide (x4_1 < 10)), (by first | rfl | (simp; done) | (simp [*]; done)), H', ⟨by have := HK1.out; first | omega | exact Nat.le_refl _⟩, ⟨by (with_reducible repeat (first | apply Kd.S_alloc | apply Kd.S_drewN | apply Kd.S_drew)); exact HO_3.out⟩, ⟨by repeat (first | (with_reducible first | exact HB.out | apply below_alloc | apply pw_below_drewN | apply below_drew1) | exact HB.out)⟩⟩
    ·
     rw [if_neg c3] at H
     have c3b0 : decide (x4_1 < (l0.length : Int)) = false := decide_eq_false c3
     clear c3
     (first | rw [c3b0] | (simp only [i64_w, i32_w]; rw [c3b0]) | skip)
     have H' := Aside0.mk H
     clear H
     go_wp2
     go_meet
     case rel => exact ⟨_, (false), (by first | rfl | (simp; done) | (simp [*]; done)), H', ⟨by have := HK1.out; first | omega | exact Nat.le_refl _⟩, ⟨by (with_reducible repeat (first | apply Kd.S_alloc | apply Kd.S_drewN | apply Kd.S_drew)); exact HO_3.out⟩, ⟨by repeat (first | (with_reducible first | exact HB.out | apply below_alloc | apply pw_below_drewN | apply below_drew1) | exact HB.out)⟩⟩
   case rest =>
    clear HC2
    (try clear c1); (try clear p2); (try clear c3); (try clear c3b0)
    obtain ⟨kq, x15_1, rfl, HA, HJ1, HO_3, HB⟩ := hcut
    cases kq with
    | zero => exact absurd HA.out (by simp [warplaw8_Keys.j1])
    | succ kj1 =>
     have H := HA.out
     clear HA
     simp only [warplaw8_Keys.j1] at H
     by_cases c4 : x15_1 = true
     ·
      subst c4
      have H1 : (warplaw8_Keys.l1 kj1 l0 x3_1 x4_1 ([] : List (S26)) 0) = some r := by rw [if_pos rfl] at H; exact H
      clear H
      have H := H1
      clear H1
      have H' := Aside0.mk H
      clear H
      go_wp2
      go_loopg [5, 6] kj1 (fun kq v5 v6 w' => ∃ (x5_3 : List (S26)) (x6_3 : Int), v6 = .int .i64 x6_3 ∧ Aside0 (warplaw8_Keys.l1 kq l0 x3_1 x4_1 x5_3 x6_3 = some r) ∧ Aside0 (kq ≤ kj1) ∧ Aside0 (Kd.S (Kd.slice 26 k26) 24 w' w.heap.size (fun k_ => some k_ ≠ (v5 : Value).ownBlock) u3 x3_1) ∧ Aside0 (Kd.R k26 26 w' w.heap.size (fun _ => True) v5 x5_3) ∧ Aside0 (Below w.heap.size w w'))
      case atStart => exact ⟨(([] : List (S26))), (0), (by first | rfl | (simp; done) | (simp [*]; done)), H', ⟨Nat.le_refl _⟩, ⟨by (with_reducible repeat (first | apply Kd.S_alloc | apply Kd.S_drewN | apply Kd.S_drew)); exact Kd.S_mono HO_3.out (fun _ hk => (by simp [Value.ownBlock]))⟩, ⟨by first | exact Kd.R_nil _ _ _ _ _ | exact Kd.N_nil _ _ _ _ _ | exact Kd.V_nil _ _ _ _ _ | exact Kd.Q_nil _ _ _ _ _ | exact Kd.S_nil _ _ _ _ _⟩, ⟨by repeat (first | (with_reducible first | exact HB.out | apply below_alloc | apply pw_below_drewN | apply below_drew1) | exact HB.out)⟩⟩
      case round =>
       clear H'
       (try clear c1); (try clear p2); (try clear c3); (try clear c3b0); (try clear c4); (try clear p2)
       obtain ⟨x5_3, x6_3, rfl, HA, HK3, HO_3, HO_5, HB⟩ := hrel
       cases gk with
       | zero => exact absurd HA.out (by simp [warplaw8_Keys.l1])
       | succ k3 =>
        have H := HA.out
        clear HA
        simp only [warplaw8_Keys.l1] at H
        by_cases c5 : 0 ≤ x4_1
        ·
         rw [if_pos c5] at H
         have c5b0 : decide (0 ≤ x4_1) = true := decide_eq_true c5
         clear c5
         by_cases c6 : x4_1 < (l0.length : Int)
         ·
          rw [if_pos c6] at H
          have c6b0 : decide (x4_1 < (l0.length : Int)) = true := decide_eq_true c6
          clear c6
          by_cases c7 : x6_3 < ((rd_L8 l0 x4_1).length : Int)
          ·
           rw [if_pos c7] at H
           have c7b0 : decide (x6_3 < ((rd_L8 l0 x4_1).length : Int)) = true := decide_eq_true c7
           clear c7
           by_cases c8 : x6_3 < 12
           ·
            rw [if_pos c8] at H
            have c8b0 : decide (x6_3 < 12) = true := decide_eq_true c8
            clear c8
            by_cases c9 : 0 ≤ x6_3
            ·
             rw [if_pos c9] at H
             have c9b0 : decide (0 ≤ x6_3) = true := decide_eq_true c9
             clear c9
             obtain ⟨y158, hy158⟩ : ∃ y_ : List ByteArray, y_ = (([(⟨#[73, 110, 116]⟩ : ByteArray), (⟨#[45, 62]⟩ : ByteArray), (⟨#[44]⟩ : ByteArray)] : List ByteArray)) := ⟨_, rfl⟩
             replace H : (if 0 ≤ (Int.tmod (wrap64 (rd (rd_L8 l0 x4_1) x6_3)) 3) then (if (Int.tmod (wrap64 (rd (rd_L8 l0 x4_1) x6_3)) 3) < (y158.length : Int) then (if x5_3.length < 4398046511104 then (warplaw8_Keys.l1 k3 l0 x3_1 x4_1 (x5_3 ++ [(⟨rdOf ByteArray.empty y158 (Int.tmod (wrap64 (rd (rd_L8 l0 x4_1) x6_3)) 3), Int.tmod (wrap64 (Int.tdiv (wrap64 (rd (rd_L8 l0 x4_1) x6_3)) 3)) 4, Int.tmod (wrap64 (Int.tdiv (wrap64 (rd (rd_L8 l0 x4_1) x6_3)) 12)) 3⟩ : S26)]) (wrap64 (x6_3 + 1))) else (none)) else (none)) else (none)) = some r := by first | (rw [hy158]; with_reducible exact H) | (have H2_ := (Option.bind_some _ _).symm.trans H; rw [hy158]; with_reducible exact H2_) | (have H2_ := (Option.bind_some _ _).symm.trans H; with_reducible exact H2_) | with_reducible exact H | (rw [hy158]; exact H) | exact H
             have Ny158 := Aside0.mk hy158
             clear hy158
             obtain ⟨ji10, hji10⟩ : ∃ j_ : Int, (Int.tmod (wrap64 (rd (rd_L8 l0 x4_1) x6_3)) 3) = j_ := ⟨_, rfl⟩
             replace H : (if 0 ≤ (ji10) then (if (ji10) < (y158.length : Int) then (if x5_3.length < 4398046511104 then (warplaw8_Keys.l1 k3 l0 x3_1 x4_1 (x5_3 ++ [(⟨rdOf ByteArray.empty y158 (ji10), Int.tmod (wrap64 (Int.tdiv (wrap64 (rd (rd_L8 l0 x4_1) x6_3)) 3)) 4, Int.tmod (wrap64 (Int.tdiv (wrap64 (rd (rd_L8 l0 x4_1) x6_3)) 12)) 3⟩ : S26)]) (wrap64 (x6_3 + 1))) else (none)) else (none)) else (none)) = some r := by first | (rw [hji10] at H; exact H) | (simp only [hji10] at H ⊢; exact H)
             by_cases c11 : 0 ≤ (ji10)
             ·
              rw [if_pos c11] at H
              have c11b0 : decide (0 ≤ (ji10)) = true := decide_eq_true c11
              clear c11
              by_cases c12 : (ji10) < (y158.length : Int)
              ·
               rw [if_pos c12] at H
               have c12b0 : decide ((ji10) < (y158.length : Int)) = true := decide_eq_true c12
               clear c12
               by_cases c13 : x5_3.length < 4398046511104
               ·
                rw [if_pos c13] at H
                have LMc13 := Aside0.mk c13
                clear c13
                obtain ⟨y162, hy162⟩ : ∃ y_ : List (S26), y_ = (x5_3 ++ [(⟨rdOf ByteArray.empty y158 (ji10), Int.tmod (wrap64 (Int.tdiv (wrap64 (rd (rd_L8 l0 x4_1) x6_3)) 3)) 4, Int.tmod (wrap64 (Int.tdiv (wrap64 (rd (rd_L8 l0 x4_1) x6_3)) 12)) 3⟩ : S26)]) := ⟨_, rfl⟩
                replace H : (warplaw8_Keys.l1 k3 l0 x3_1 x4_1 y162 (wrap64 (x6_3 + 1))) = some r := by first | (rw [hy162]; with_reducible exact H) | (have H2_ := (Option.bind_some _ _).symm.trans H; rw [hy162]; with_reducible exact H2_) | (have H2_ := (Option.bind_some _ _).symm.trans H; with_reducible exact H2_) | with_reducible exact H | (rw [hy162]; exact H) | exact H
                have Ny162 := Aside0.mk hy162
                clear hy162
                have H' := Aside0.mk H
                clear H
                have p155 : 0 ≤ (x4_1 : Int) := of_decide_eq_true (by first | (with_reducible assumption) | assumption)
                have q155 : x4_1 < (l0.length : Int) := of_decide_eq_true (by first | (with_reducible assumption) | assumption)
                obtain ⟨ad155, A155_0, c155_0, e155, hx155_0, hl155_0, hi155_0⟩ := at_L8 HR0.out x4_1 p155 q155
                cases e155
                replace hx155_0 := (HB.out.cell (World.block_lt_of_cell? w _ hx155_0)).trans hx155_0
                have HR155_0 := Aside0.mk hi155_0
                have HC155_0 := Aside0.mk hl155_0
                clear hi155_0 hl155_0
                replace p155 := eq_true p155
                replace q155 := eq_true q155
                have p156 : 0 ≤ (x4_1 : Int) := of_decide_eq_true (by first | (with_reducible assumption) | assumption)
                have q156 : x4_1 < (l0.length : Int) := of_decide_eq_true (by first | (with_reducible assumption) | assumption)
                obtain ⟨ad156, A156_0, c156_0, e156, hx156_0, hl156_0, hi156_0⟩ := at_L8 HR0.out x4_1 p156 q156
                obtain rfl : ad155 = ad156 := (by injection e156)
                replace hx156_0 := (HB.out.cell (World.block_lt_of_cell? w _ hx156_0)).trans hx156_0
                have HR156_0 := Aside0.mk hi156_0
                have HC156_0 := Aside0.mk hl156_0
                clear hi156_0 hl156_0
                replace p156 := eq_true p156
                replace q156 := eq_true q156
                have ea_ := Option.some.inj (hx155_0.symm.trans hx156_0)
                injection ea_ with ea_ en_ ec_
                subst ea_
                subst ec_
                clear en_
                have p157 : 0 ≤ (x6_3 : Int) := of_decide_eq_true (by first | (with_reducible assumption) | assumption)
                have q157 : x6_3 < ((rd_L8 l0 x4_1).length : Int) := of_decide_eq_true (by first | (with_reducible assumption) | assumption)
                obtain ⟨ad157, e157, hx157_0⟩ := Kd.at_int HR156_0.out x6_3 p157 q157
                cases e157
                replace hx157_0 := (HB.out.cell (World.block_lt_of_cell? w _ hx157_0)).trans hx157_0
                replace p157 := eq_true p157
                replace q157 := eq_true q157
                go_wp2_with (first | ((with_reducible refine gate_dst (N := 40) rfl ?_); refine Kd.R_lit Kd.string _ 9 ?hg (N := 40) ?hd (xs := ([(⟨#[73, 110, 116]⟩ : ByteArray), (⟨#[45, 62]⟩ : ByteArray), (⟨#[44]⟩ : ByteArray)] : List ByteArray)) (inner := [.string (⟨#[73, 110, 116]⟩ : ByteArray), .string (⟨#[45, 62]⟩ : ByteArray), .string (⟨#[44]⟩ : ByteArray)]) (ok := fun _ => True) (okp := fun _ => True) ?hr ?hp (fun _ hk => hk) trivial (Below.refl _ _) (Nat.le_refl _) (by simp) ?_; (case hd => rfl); (case hg => rfl); (case hr => first | (go_simp; done) | (go_simp; rfl)); (case hp => exact (Reps.one (show Kd.M Kd.string _ _ _ (⟨#[73, 110, 116]⟩ : ByteArray) [.string (⟨#[73, 110, 116]⟩ : ByteArray)] from rfl) (Reps.one (show Kd.M Kd.string _ _ _ (⟨#[45, 62]⟩ : ByteArray) [.string (⟨#[45, 62]⟩ : ByteArray)] from rfl) (Reps.one (show Kd.M Kd.string _ _ _ (⟨#[44]⟩ : ByteArray) [.string (⟨#[44]⟩ : ByteArray)] from rfl) (Reps.none _ _))))); intro v159 w14 ho15 hb hg_ hnew_; clear hg_ hnew_; (first | rw [← Ny158.out] at ho15 | (simp only [Int.reduceToNat] at ho15; rw [← Ny158.out] at ho15)); have n0_ := Aside0.mk (Kd.S_below (by (with_reducible repeat (first | apply Kd.S_alloc | apply Kd.S_drewN | apply Kd.S_drew)); exact HO_3.out) hb); have n1_ := Aside0.mk (Kd.R_below (by (with_reducible repeat (first | apply Kd.R_alloc | apply Kd.R_drewN | apply Kd.R_drew)); exact HO_5.out) hb); have n2_ := Aside0.mk (Kd.R_lower ho15 (below_size (by repeat (first | (with_reducible first | exact HB.out | apply below_alloc | apply pw_below_drewN | apply below_drew1) | exact HB.out)))); have n3_ := Aside0.mk (below_step (by repeat (first | (with_reducible first | exact HB.out | apply below_alloc | apply pw_below_drewN | apply below_drew1) | exact HB.out)) hb); clear HO_3; clear HO_5; clear HB; have HO_3 := n0_; have HO_5 := n1_; have HO160 := n2_; have HB := n3_; clear n0_ n1_ n2_ n3_; clear hb ho15; obtain ⟨Ao16, co16, eo16⟩ := Kd.R_slice HO160.out; subst eo16; have p161 : 0 ≤ ((ji10) : Int) := of_decide_eq_true (by first | (with_reducible assumption) | assumption); have q161 : (ji10) < (y158.length : Int) := of_decide_eq_true (by first | (with_reducible assumption) | assumption); obtain ⟨ad161, e161, hx161_0⟩ := Kd.at_string (Kd.R_reads' HO160.out).2.2 (ji10) p161 q161; cases e161; replace p161 := eq_true p161; replace q161 := eq_true q161) | ((with_reducible refine gate_builtin (b := .append) (xs := #[.tmp 39, .tmp 52]) rfl ?_); at_builtin; refine Kd.R_append k26 (w0 := w) w.heap.size rfl (.tmp 39) (.tmp 52) 24 26 (.agg #[(.string ⟨#[]⟩), (.int .i64 0), (.int .i64 0)]) 32 rfl Tryd.underlying24 info26 rfl (by decide) (by omega) u5 x5_3 (⟨rdOf ByteArray.empty y158 (ji10), Int.tmod (wrap64 (Int.tdiv (wrap64 (rd (rd_L8 l0 x4_1) x6_3)) 3)) 4, Int.tmod (wrap64 (Int.tdiv (wrap64 (rd (rd_L8 l0 x4_1) x6_3)) 12)) 3⟩ : S26) [.string (rdOf ByteArray.empty y158 (ji10)), .int .i64 (Int.tmod (wrap64 (Int.tdiv (wrap64 (rd (rd_L8 l0 x4_1) x6_3)) 3)) 4), .int .i64 (Int.tmod (wrap64 (Int.tdiv (wrap64 (rd (rd_L8 l0 x4_1) x6_3)) 12)) 3)] (fun _ => True) (fun _ => False) rfl rfl ?aP (fun _ hk => hk.elim) ?aF ?aO ?aB ?aS ?aL ?_; (case aP => exact k26_mkM _ _ _ (⟨rdOf ByteArray.empty y158 (ji10), Int.tmod (wrap64 (Int.tdiv (wrap64 (rd (rd_L8 l0 x4_1) x6_3)) 3)) 4, Int.tmod (wrap64 (Int.tdiv (wrap64 (rd (rd_L8 l0 x4_1) x6_3)) 12)) 3⟩ : S26)); (case aB => exact (by repeat (first | (with_reducible first | exact HB.out | apply below_alloc | apply pw_below_drewN | apply below_drew1) | exact HB.out))); (case aF => exact (fun _ _ => trivial)); (case aO => exact (by (with_reducible repeat (first | apply Kd.R_alloc | apply Kd.R_drewN | apply Kd.R_drew)); exact HO_5.out)); (case aS => exact (below_size (by repeat (first | (with_reducible first | exact HB.out | apply below_alloc | apply pw_below_drewN | apply below_drew1) | exact HB.out)))); (case aL => have := LMc13.out; omega); intro v163 w17 ho hb hg hat; rw [← Ny162.out] at ho; have n0_ := Aside0.mk (Kd.S_after (ok := (fun _ => True)) (by (with_reducible repeat (first | apply Kd.S_alloc | apply Kd.S_drewN | apply Kd.S_drew)); exact Kd.S_mono HO_3.out (fun _ hk => ⟨trivial, hk⟩)) hg hat); have n1_ := Aside0.mk (Kd.R_over' (by (with_reducible repeat (first | apply Kd.R_alloc | apply Kd.R_drewN | apply Kd.R_drew)); exact HO160.out) (Kd.R_typed (by (with_reducible repeat (first | apply Kd.R_alloc | apply Kd.R_drewN | apply Kd.R_drew)); exact HO_5.out)) (by decide) hg); have n2_ := Aside0.mk (hb); have n3_ := Aside0.mk (ho); clear HO_3; clear HO160; clear HB; clear HO_5; have HO_3 := n0_; have HO160 := n1_; have HB := n2_; have HO164 := n3_; clear n0_ n1_ n2_ n3_; clear ho hb hg hat))
                go_roundg k3
                case measure => have := HK1.out; have := HJ1.out; have := HK3.out; omega
                case rel => exact ⟨(y162), (wrap64 (x6_3 + 1)), (by first | rfl | (simp; done) | (simp [*]; done)), H', ⟨by have := HK1.out; have := HJ1.out; have := HK3.out; omega⟩, ⟨by (with_reducible repeat (first | apply Kd.S_alloc | apply Kd.S_drewN | apply Kd.S_drew)); exact Kd.S_mono HO_3.out (fun _ hk => hk.2)⟩, ⟨by (with_reducible repeat (first | apply Kd.R_alloc | apply Kd.R_drewN | apply Kd.R_drew)); exact HO164.out⟩, ⟨by repeat (first | (with_reducible first | exact HB.out | apply below_alloc | apply pw_below_drewN | apply below_drew1) | exact HB.out)⟩⟩
               ·
                rw [if_neg c13] at H
                exact absurd H (by simp)
              ·
               rw [if_neg c12] at H
               exact absurd H (by simp)
             ·
              rw [if_neg c11] at H
              exact absurd H (by simp)
            ·
             rw [if_neg c9] at H
             exact absurd H (by simp)
           ·
            rw [if_neg c8] at H
            have c8b0 : decide (x6_3 < 12) = false := decide_eq_false c8
            clear c8
            by_cases c18 : x3_1.length < 5864062014805
            ·
             rw [if_pos c18] at H
             have LMc18 := Aside0.mk c18
             clear c18
             obtain ⟨y165, hy165⟩ : ∃ y_ : List (List (S26)), y_ = (x3_1 ++ [x5_3]) := ⟨_, rfl⟩
             replace H : (warplaw8_Keys.l0 k3 l0 y165 (wrap64 (x4_1 + 1))) = some r := by first | (rw [hy165]; with_reducible exact H) | (have H2_ := (Option.bind_some _ _).symm.trans H; rw [hy165]; with_reducible exact H2_) | (have H2_ := (Option.bind_some _ _).symm.trans H; with_reducible exact H2_) | with_reducible exact H | (rw [hy165]; exact H) | exact H
             have Ny165 := Aside0.mk hy165
             clear hy165
             have H' := Aside0.mk H
             clear H
             have p155 : 0 ≤ (x4_1 : Int) := of_decide_eq_true (by first | (with_reducible assumption) | assumption)
             have q155 : x4_1 < (l0.length : Int) := of_decide_eq_true (by first | (with_reducible assumption) | assumption)
             obtain ⟨ad155, A155_0, c155_0, e155, hx155_0, hl155_0, hi155_0⟩ := at_L8 HR0.out x4_1 p155 q155
             cases e155
             replace hx155_0 := (HB.out.cell (World.block_lt_of_cell? w _ hx155_0)).trans hx155_0
             have HR155_0 := Aside0.mk hi155_0
             have HC155_0 := Aside0.mk hl155_0
             clear hi155_0 hl155_0
             replace p155 := eq_true p155
             replace q155 := eq_true q155
             obtain ⟨Ao20, co20, eo20⟩ := Kd.R_slice HO_5.out
             subst eo20
             go_wp2_with (first | ((with_reducible refine gate_builtin (b := .append) (xs := #[.tmp 54, .tmp 56]) rfl ?_); at_builtin; refine Kd.S_append (Kd.slice 26 k26) (w0 := w) w.heap.size rfl (.tmp 54) (.tmp 56) 22 24 (.slice none 0 0) 24 rfl Tryd.underlying22 info24 rfl (by decide) (by omega) u3 x3_1 x5_3 [.slice Ao20 x5_3.length co20] (fun _ => True) (fun k_ => some k_ = (.slice Ao20 x5_3.length co20 : Value).ownBlock) rfl rfl ?aP (fun k_ hk_ => ((Kd.R_mono (ok' := fun k_ => ((fun _ => True)) k_ ∧ some k_ ≠ (u3 : Value).ownBlock) (Kd.R_apart' (HO_5.out) (Kd.S_typed HO_3.out) (by decide)) (fun k_ hk => ⟨trivial, hk.2⟩))).1 k_ hk_.symm) ?aF ?aO ?aB ?aS ?aL ?_; (case aP => exact Kd.M_row (Kd.R_mono (Kd.R_tight rfl (Kd.R_mono (ok' := fun k_ => ((fun _ => True)) k_ ∧ some k_ ≠ (u3 : Value).ownBlock) (Kd.R_apart' (HO_5.out) (Kd.S_typed HO_3.out) (by decide)) (fun k_ hk => ⟨trivial, hk.2⟩))) (fun _ h_ => h_))); (case aB => exact (by repeat (first | (with_reducible first | exact HB.out | apply below_alloc | apply pw_below_drewN | apply below_drew1) | exact HB.out))); (case aF => exact (fun _ _ => trivial)); (case aO => exact (by (with_reducible repeat (first | apply Kd.S_alloc | apply Kd.S_drewN | apply Kd.S_drew)); exact Kd.S_mono HO_3.out (fun k_ hk => ⟨trivial, fun e_ => hk e_⟩))); (case aS => exact (below_size (by repeat (first | (with_reducible first | exact HB.out | apply below_alloc | apply pw_below_drewN | apply below_drew1) | exact HB.out)))); (case aL => have := LMc18.out; omega); intro v166 w19 ho hb hg hat; rw [← Ny165.out] at ho; have n0_ := Aside0.mk (hb); have n1_ := Aside0.mk (ho); clear HB; clear HO_3; clear HO_5; have HB := n0_; have HO167 := n1_; clear n0_ n1_; clear ho hb hg hat))
             go_roundg k3
             case measure => have := HK1.out; have := HJ1.out; have := HK3.out; omega
             case rel => exact ⟨(y165), (wrap64 (x4_1 + 1)), (by first | rfl | (simp; done) | (simp [*]; done)), H', ⟨by have := HK1.out; have := HJ1.out; have := HK3.out; omega⟩, ⟨by (with_reducible repeat (first | apply Kd.S_alloc | apply Kd.S_drewN | apply Kd.S_drew)); exact HO167.out⟩, ⟨by repeat (first | (with_reducible first | exact HB.out | apply below_alloc | apply pw_below_drewN | apply below_drew1) | exact HB.out)⟩⟩
            ·
             rw [if_neg c18] at H
             exact absurd H (by simp)
          ·
           rw [if_neg c7] at H
           have c7b0 : decide (x6_3 < ((rd_L8 l0 x4_1).length : Int)) = false := decide_eq_false c7
           clear c7
           by_cases c21 : x3_1.length < 5864062014805
           ·
            rw [if_pos c21] at H
            have LMc21 := Aside0.mk c21
            clear c21
            obtain ⟨y168, hy168⟩ : ∃ y_ : List (List (S26)), y_ = (x3_1 ++ [x5_3]) := ⟨_, rfl⟩
            replace H : (warplaw8_Keys.l0 k3 l0 y168 (wrap64 (x4_1 + 1))) = some r := by first | (rw [hy168]; with_reducible exact H) | (have H2_ := (Option.bind_some _ _).symm.trans H; rw [hy168]; with_reducible exact H2_) | (have H2_ := (Option.bind_some _ _).symm.trans H; with_reducible exact H2_) | with_reducible exact H | (rw [hy168]; exact H) | exact H
            have Ny168 := Aside0.mk hy168
            clear hy168
            have H' := Aside0.mk H
            clear H
            have p155 : 0 ≤ (x4_1 : Int) := of_decide_eq_true (by first | (with_reducible assumption) | assumption)
            have q155 : x4_1 < (l0.length : Int) := of_decide_eq_true (by first | (with_reducible assumption) | assumption)
            obtain ⟨ad155, A155_0, c155_0, e155, hx155_0, hl155_0, hi155_0⟩ := at_L8 HR0.out x4_1 p155 q155
            cases e155
            replace hx155_0 := (HB.out.cell (World.block_lt_of_cell? w _ hx155_0)).trans hx155_0
            have HR155_0 := Aside0.mk hi155_0
            have HC155_0 := Aside0.mk hl155_0
            clear hi155_0 hl155_0
            replace p155 := eq_true p155
            replace q155 := eq_true q155
            obtain ⟨Ao23, co23, eo23⟩ := Kd.R_slice HO_5.out
            subst eo23
            go_wp2_with (first | ((with_reducible refine gate_builtin (b := .append) (xs := #[.tmp 54, .tmp 56]) rfl ?_); at_builtin; refine Kd.S_append (Kd.slice 26 k26) (w0 := w) w.heap.size rfl (.tmp 54) (.tmp 56) 22 24 (.slice none 0 0) 24 rfl Tryd.underlying22 info24 rfl (by decide) (by omega) u3 x3_1 x5_3 [.slice Ao23 x5_3.length co23] (fun _ => True) (fun k_ => some k_ = (.slice Ao23 x5_3.length co23 : Value).ownBlock) rfl rfl ?aP (fun k_ hk_ => ((Kd.R_mono (ok' := fun k_ => ((fun _ => True)) k_ ∧ some k_ ≠ (u3 : Value).ownBlock) (Kd.R_apart' (HO_5.out) (Kd.S_typed HO_3.out) (by decide)) (fun k_ hk => ⟨trivial, hk.2⟩))).1 k_ hk_.symm) ?aF ?aO ?aB ?aS ?aL ?_; (case aP => exact Kd.M_row (Kd.R_mono (Kd.R_tight rfl (Kd.R_mono (ok' := fun k_ => ((fun _ => True)) k_ ∧ some k_ ≠ (u3 : Value).ownBlock) (Kd.R_apart' (HO_5.out) (Kd.S_typed HO_3.out) (by decide)) (fun k_ hk => ⟨trivial, hk.2⟩))) (fun _ h_ => h_))); (case aB => exact (by repeat (first | (with_reducible first | exact HB.out | apply below_alloc | apply pw_below_drewN | apply below_drew1) | exact HB.out))); (case aF => exact (fun _ _ => trivial)); (case aO => exact (by (with_reducible repeat (first | apply Kd.S_alloc | apply Kd.S_drewN | apply Kd.S_drew)); exact Kd.S_mono HO_3.out (fun k_ hk => ⟨trivial, fun e_ => hk e_⟩))); (case aS => exact (below_size (by repeat (first | (with_reducible first | exact HB.out | apply below_alloc | apply pw_below_drewN | apply below_drew1) | exact HB.out)))); (case aL => have := LMc21.out; omega); intro v169 w22 ho hb hg hat; rw [← Ny168.out] at ho; have n0_ := Aside0.mk (hb); have n1_ := Aside0.mk (ho); clear HB; clear HO_3; clear HO_5; have HB := n0_; have HO170 := n1_; clear n0_ n1_; clear ho hb hg hat))
            go_roundg k3
            case measure => have := HK1.out; have := HJ1.out; have := HK3.out; omega
            case rel => exact ⟨(y168), (wrap64 (x4_1 + 1)), (by first | rfl | (simp; done) | (simp [*]; done)), H', ⟨by have := HK1.out; have := HJ1.out; have := HK3.out; omega⟩, ⟨by (with_reducible repeat (first | apply Kd.S_alloc | apply Kd.S_drewN | apply Kd.S_drew)); exact HO170.out⟩, ⟨by repeat (first | (with_reducible first | exact HB.out | apply below_alloc | apply pw_below_drewN | apply below_drew1) | exact HB.out)⟩⟩
           ·
            rw [if_neg c21] at H
            exact absurd H (by simp)
         ·
          rw [if_neg c6] at H
          exact absurd H (by simp)
        ·
         rw [if_neg c5] at H
         exact absurd H (by simp)
     ·
      replace c4 := Bool.eq_false_iff.mpr c4
      subst c4
      have H1 : (some x3_1) = some r := by rw [if_neg (show ¬ (false = true) by decide)] at H; exact H
      clear H
      have H := H1
      clear H1
      obtain rfl := Option.some.inj H
      go_wp2
      go_ret
      exact ⟨_, by first | rfl | (simp [errW_none, errW_some] <;> rfl) | (simp [*, errW_none, errW_some] <;> rfl), by (with_reducible repeat (first | apply Kd.S_alloc | apply Kd.S_drewN | apply Kd.S_drew)); exact HO_3.out, by repeat (first | (with_reducible first | exact HB.out | apply below_alloc | apply pw_below_drewN | apply below_drew1) | exact HB.out)⟩

end Go.Proofs.YtmgfkdnoclmbgaaDoor.P
