/-
The plain Lean functions of Go functions of this seat, and proofs that the calls of the machine come to them; no condition beside those named in each theorem.
-/
import Derived.Test.YtmgfkdnoclmbgaaDoorPx0
import Derived.Test.YtmgfkdnoclmbgaaDoorAw
import Derived.Test.YtmgfkdnoclmbgaaDoorPx4
import Derived.Test.YtmgfkdnoclmbgaaDoorStubB
import Derived.Test.YtmgfkdnoclmbgaaDoorStubC
namespace Go.Proofs.YtmgfkdnoclmbgaaDoor.P
open Go.RowKit Go.Proofs.YtmgfkdnoclmbgaaDoorW.PrintWords Go.Proofs.YtmgfkdnoclmbgaaDoorW.PrintLast Go.Proofs.YtmgfkdnoclmbgaaDoorW.PrintMore
attribute [local go_sem] max2_int min2_int max_two min_two max_three min_three max_four min_four   -- for this text's walks alone
set_option linter.unusedVariables false
set_option linter.unusedSimpArgs false

/-! ### warplaw8_TableAll: function 3 -/
mutual
def warplaw8_TableAll.l0 : Nat → List (List (S26)) → Int → Int → List Int → Int → Int → Option (Bool)
 | 0, _, _, _, _, _, _ => none
 | k + 1, x0, x1, x2, x3, x9, x10 => if x10 < (x0.length : Int) then (warplaw8_TableAll.j1 k x0 x1 x2 x3 x9 x10 (decide (x10 < 70))) else (warplaw8_TableAll.j1 k x0 x1 x2 x3 x9 x10 false)
def warplaw8_TableAll.j1 : Nat → List (List (S26)) → Int → Int → List Int → Int → Int → Bool → Option (Bool)
 | 0, _, _, _, _, _, _, _ => none
 | k + 1, x0, x1, x2, x3, x9, x10, x24 => if x24 = true then (if 0 ≤ x10 then (if x10 < (x0.length : Int) then (warplaw8_TableAll.l1 k x0 x1 x2 x3 (wrap64 (x9 + ((rd_L3 x0 x10).length : Int))) x10 0) else (none)) else (none)) else (if x9 > 80 then (warplaw8_TableAll.j4 k x0 x1 x2 x3 true) else (if (x0.length : Int) > 66 then (warplaw8_TableAll.j4 k x0 x1 x2 x3 true) else (warplaw8_TableAll.j4 k x0 x1 x2 x3 (decide ((x3.length : Int) > 500)))))
def warplaw8_TableAll.l1 : Nat → List (List (S26)) → Int → Int → List Int → Int → Int → Int → Option (Bool)
 | 0, _, _, _, _, _, _, _ => none
 | k + 1, x0, x1, x2, x3, x9, x10, x11 => if 0 ≤ x10 then (if x10 < (x0.length : Int) then (if x11 < ((rd_L3 x0 x10).length : Int) then (warplaw8_TableAll.j3 k x0 x1 x2 x3 x9 x10 x11 (decide (x11 < 100))) else (warplaw8_TableAll.j3 k x0 x1 x2 x3 x9 x10 x11 false)) else (none)) else (none)
def warplaw8_TableAll.j3 : Nat → List (List (S26)) → Int → Int → List Int → Int → Int → Int → Bool → Option (Bool)
 | 0, _, _, _, _, _, _, _, _ => none
 | k + 1, x0, x1, x2, x3, x9, x10, x11, x44 => if x44 = true then (if 0 ≤ x10 then (if x10 < (x0.length : Int) then (if 0 ≤ x11 then (if x11 < ((rd_L3 x0 x10).length : Int) then (if (((rd_T26 (rd_L3 x0 x10) x11).f0).size : Int) > 100 then ((warplaw8_awake.f k).bind fun t133 => (some t133)) else (warplaw8_TableAll.l1 k x0 x1 x2 x3 x9 x10 (wrap64 (x11 + 1)))) else (none)) else (none)) else (none)) else (none)) else (warplaw8_TableAll.l0 k x0 x1 x2 x3 x9 (wrap64 (x10 + 1)))
def warplaw8_TableAll.j4 : Nat → List (List (S26)) → Int → Int → List Int → Bool → Option (Bool)
 | 0, _, _, _, _, _ => none
 | k + 1, x0, x1, x2, x3, x69 => if x69 = true then ((warplaw8_awake.f k).bind fun t134 => (some t134)) else ((table_Play.f x0 x1 x2 x3).bind fun bt135 => ((warpref1_Table.f x0 x1 x2 x3).bind fun bt143 => ((warplaw8_lists.f k bt135.1 bt143.1).bind fun t152 => (if t152 = true then ((warplaw8_same.f k bt135.2.1 bt143.2.1).bind fun t153 => (if t153 = true then (if bt135.2.2.1 = bt143.2.2.1 then (if bt135.2.2.2 = bt143.2.2.2 then ((warplaw8_awake.f k).bind fun t154 => (some t154)) else (some false)) else (some false)) else (some false))) else (some false)))))
end
def warplaw8_TableAll.f (k : Nat) (l0 : List (List (S26))) (a1 : Int) (a2 : Int) (l3 : List Int) : Option (Bool) := warplaw8_TableAll.l0 k l0 a1 a2 l3 0 0
theorem warplaw8_TableAll.mono_l : ∀ k, (∀ y0 y1 y2 y3 y4 y5, LeO (warplaw8_TableAll.l0 k y0 y1 y2 y3 y4 y5) (warplaw8_TableAll.l0 (k + 1) y0 y1 y2 y3 y4 y5)) ∧ (∀ y0 y1 y2 y3 y4 y5 y6, LeO (warplaw8_TableAll.j1 k y0 y1 y2 y3 y4 y5 y6) (warplaw8_TableAll.j1 (k + 1) y0 y1 y2 y3 y4 y5 y6)) ∧ (∀ y0 y1 y2 y3 y4 y5 y6, LeO (warplaw8_TableAll.l1 k y0 y1 y2 y3 y4 y5 y6) (warplaw8_TableAll.l1 (k + 1) y0 y1 y2 y3 y4 y5 y6)) ∧ (∀ y0 y1 y2 y3 y4 y5 y6 y7, LeO (warplaw8_TableAll.j3 k y0 y1 y2 y3 y4 y5 y6 y7) (warplaw8_TableAll.j3 (k + 1) y0 y1 y2 y3 y4 y5 y6 y7)) ∧ (∀ y0 y1 y2 y3 y4, LeO (warplaw8_TableAll.j4 k y0 y1 y2 y3 y4) (warplaw8_TableAll.j4 (k + 1) y0 y1 y2 y3 y4))
 | 0 => ⟨fun _ _ _ _ _ _ r h => by simp [warplaw8_TableAll.l0] at h, fun _ _ _ _ _ _ _ r h => by simp [warplaw8_TableAll.j1] at h, fun _ _ _ _ _ _ _ r h => by simp [warplaw8_TableAll.l1] at h, fun _ _ _ _ _ _ _ _ r h => by simp [warplaw8_TableAll.j3] at h, fun _ _ _ _ _ r h => by simp [warplaw8_TableAll.j4] at h⟩
 | k + 1 => by
  obtain ⟨ih0, ih1, ih2, ih3, ih4⟩ := warplaw8_TableAll.mono_l k
  refine ⟨?_, ?_, ?_, ?_, ?_⟩
  ·
   intro y0 y1 y2 y3 y4 y5
   unfold warplaw8_TableAll.l0
   repeat' first
   | (with_reducible exact ih0 _ _ _ _ _ _)
   | (with_reducible exact ih1 _ _ _ _ _ _ _)
   | (with_reducible exact ih2 _ _ _ _ _ _ _)
   | (with_reducible exact ih3 _ _ _ _ _ _ _ _)
   | (with_reducible exact ih4 _ _ _ _ _)
   | (with_reducible exact warplaw8_awake.mono _)
   | (with_reducible exact warplaw8_lists.mono _ _ _)
   | (with_reducible exact warplaw8_same.mono _ _ _)
   | (with_reducible exact LeO.refl _)
   | (with_reducible exact LeO.none _)
   | (with_reducible refine LeO.ite ?_ ?_)
   | (with_reducible refine LeO.bind ?_ (fun _ => ?_))
   | exact ih0 _ _ _ _ _ _
   | exact ih1 _ _ _ _ _ _ _
   | exact ih2 _ _ _ _ _ _ _
   | exact ih3 _ _ _ _ _ _ _ _
   | exact ih4 _ _ _ _ _
   | exact warplaw8_awake.mono _
   | exact warplaw8_lists.mono _ _ _
   | exact warplaw8_same.mono _ _ _
   | exact LeO.none _
   | refine LeO.ite ?_ ?_
   | refine LeO.bind ?_ (fun _ => ?_)
  ·
   intro y0 y1 y2 y3 y4 y5 y6
   unfold warplaw8_TableAll.j1
   repeat' first
   | (with_reducible exact ih0 _ _ _ _ _ _)
   | (with_reducible exact ih1 _ _ _ _ _ _ _)
   | (with_reducible exact ih2 _ _ _ _ _ _ _)
   | (with_reducible exact ih3 _ _ _ _ _ _ _ _)
   | (with_reducible exact ih4 _ _ _ _ _)
   | (with_reducible exact warplaw8_awake.mono _)
   | (with_reducible exact warplaw8_lists.mono _ _ _)
   | (with_reducible exact warplaw8_same.mono _ _ _)
   | (with_reducible exact LeO.refl _)
   | (with_reducible exact LeO.none _)
   | (with_reducible refine LeO.ite ?_ ?_)
   | (with_reducible refine LeO.bind ?_ (fun _ => ?_))
   | exact ih0 _ _ _ _ _ _
   | exact ih1 _ _ _ _ _ _ _
   | exact ih2 _ _ _ _ _ _ _
   | exact ih3 _ _ _ _ _ _ _ _
   | exact ih4 _ _ _ _ _
   | exact warplaw8_awake.mono _
   | exact warplaw8_lists.mono _ _ _
   | exact warplaw8_same.mono _ _ _
   | exact LeO.none _
   | refine LeO.ite ?_ ?_
   | refine LeO.bind ?_ (fun _ => ?_)
  ·
   intro y0 y1 y2 y3 y4 y5 y6
   unfold warplaw8_TableAll.l1
   repeat' first
   | (with_reducible exact ih0 _ _ _ _ _ _)
   | (with_reducible exact ih1 _ _ _ _ _ _ _)
   | (with_reducible exact ih2 _ _ _ _ _ _ _)
   | (with_reducible exact ih3 _ _ _ _ _ _ _ _)
   | (with_reducible exact ih4 _ _ _ _ _)
   | (with_reducible exact warplaw8_awake.mono _)
   | (with_reducible exact warplaw8_lists.mono _ _ _)
   | (with_reducible exact warplaw8_same.mono _ _ _)
   | (with_reducible exact LeO.refl _)
   | (with_reducible exact LeO.none _)
   | (with_reducible refine LeO.ite ?_ ?_)
   | (with_reducible refine LeO.bind ?_ (fun _ => ?_))
   | exact ih0 _ _ _ _ _ _
   | exact ih1 _ _ _ _ _ _ _
   | exact ih2 _ _ _ _ _ _ _
   | exact ih3 _ _ _ _ _ _ _ _
   | exact ih4 _ _ _ _ _
   | exact warplaw8_awake.mono _
   | exact warplaw8_lists.mono _ _ _
   | exact warplaw8_same.mono _ _ _
   | exact LeO.none _
   | refine LeO.ite ?_ ?_
   | refine LeO.bind ?_ (fun _ => ?_)
  ·
   intro y0 y1 y2 y3 y4 y5 y6 y7
   unfold warplaw8_TableAll.j3
   repeat' first
   | (with_reducible exact ih0 _ _ _ _ _ _)
   | (with_reducible exact ih1 _ _ _ _ _ _ _)
   | (with_reducible exact ih2 _ _ _ _ _ _ _)
   | (with_reducible exact ih3 _ _ _ _ _ _ _ _)
   | (with_reducible exact ih4 _ _ _ _ _)
   | (with_reducible exact warplaw8_awake.mono _)
   | (with_reducible exact warplaw8_lists.mono _ _ _)
   | (with_reducible exact warplaw8_same.mono _ _ _)
   | (with_reducible exact LeO.refl _)
   | (with_reducible exact LeO.none _)
   | (with_reducible refine LeO.ite ?_ ?_)
   | (with_reducible refine LeO.bind ?_ (fun _ => ?_))
   | exact ih0 _ _ _ _ _ _
   | exact ih1 _ _ _ _ _ _ _
   | exact ih2 _ _ _ _ _ _ _
   | exact ih3 _ _ _ _ _ _ _ _
   | exact ih4 _ _ _ _ _
   | exact warplaw8_awake.mono _
   | exact warplaw8_lists.mono _ _ _
   | exact warplaw8_same.mono _ _ _
   | exact LeO.none _
   | refine LeO.ite ?_ ?_
   | refine LeO.bind ?_ (fun _ => ?_)
  ·
   intro y0 y1 y2 y3 y4
   unfold warplaw8_TableAll.j4
   repeat' first
   | (with_reducible exact ih0 _ _ _ _ _ _)
   | (with_reducible exact ih1 _ _ _ _ _ _ _)
   | (with_reducible exact ih2 _ _ _ _ _ _ _)
   | (with_reducible exact ih3 _ _ _ _ _ _ _ _)
   | (with_reducible exact ih4 _ _ _ _ _)
   | (with_reducible exact warplaw8_awake.mono _)
   | (with_reducible exact warplaw8_lists.mono _ _ _)
   | (with_reducible exact warplaw8_same.mono _ _ _)
   | (with_reducible exact LeO.refl _)
   | (with_reducible exact LeO.none _)
   | (with_reducible refine LeO.ite ?_ ?_)
   | (with_reducible refine LeO.bind ?_ (fun _ => ?_))
   | exact ih0 _ _ _ _ _ _
   | exact ih1 _ _ _ _ _ _ _
   | exact ih2 _ _ _ _ _ _ _
   | exact ih3 _ _ _ _ _ _ _ _
   | exact ih4 _ _ _ _ _
   | exact warplaw8_awake.mono _
   | exact warplaw8_lists.mono _ _ _
   | exact warplaw8_same.mono _ _ _
   | exact LeO.none _
   | refine LeO.ite ?_ ?_
   | refine LeO.bind ?_ (fun _ => ?_)
theorem warplaw8_TableAll.mono : ∀ a0 a1 a2 a3 k, LeO (warplaw8_TableAll.f k a0 a1 a2 a3) (warplaw8_TableAll.f (k + 1) a0 a1 a2 a3) := by
 intro a0 a1 a2 a3 k
 obtain ⟨ih0, ih1, ih2, ih3, ih4⟩ := warplaw8_TableAll.mono_l k
 unfold warplaw8_TableAll.f
 repeat' first
  | (with_reducible exact ih0 _ _ _ _ _ _)
  | (with_reducible exact ih1 _ _ _ _ _ _ _)
  | (with_reducible exact ih2 _ _ _ _ _ _ _)
  | (with_reducible exact ih3 _ _ _ _ _ _ _ _)
  | (with_reducible exact ih4 _ _ _ _ _)
  | (with_reducible exact warplaw8_awake.mono _)
  | (with_reducible exact warplaw8_lists.mono _ _ _)
  | (with_reducible exact warplaw8_same.mono _ _ _)
  | (with_reducible exact LeO.refl _)
  | (with_reducible exact LeO.none _)
  | (with_reducible refine LeO.ite ?_ ?_)
  | (with_reducible refine LeO.bind ?_ (fun _ => ?_))
  | exact ih0 _ _ _ _ _ _
  | exact ih1 _ _ _ _ _ _ _
  | exact ih2 _ _ _ _ _ _ _
  | exact ih3 _ _ _ _ _ _ _ _
  | exact ih4 _ _ _ _ _
  | exact warplaw8_awake.mono _
  | exact warplaw8_lists.mono _ _ _
  | exact warplaw8_same.mono _ _ _
  | exact LeO.none _
  | refine LeO.ite ?_ ?_
  | refine LeO.bind ?_ (fun _ => ?_)
set_option maxHeartbeats 8000000 in
set_option maxRecDepth 100000 in
theorem warplaw8_TableAll.calls (k : Nat) (A0 : Option Addr) (c0 : Nat) (l0 : List (List (S26))) (a1 : Int) (a2 : Int) (A3 : Option Addr) (c3 : Nat) (l3 : List Int) (r : Bool) (w : World) (hr0 : Kd.C (Kd.slice 26 k26) w A0 l0.length l0) (hc0 : l0.length ≤ c0) (hr3 : Kd.C (Kd.int .i64) w A3 l3.length l3) (hc3 : l3.length ≤ c3) (h : warplaw8_TableAll.f k l0 a1 a2 l3 = some r) (hT_ : Tab w := by first | exact hT_ | exact Tab.drewN hT_ _ | (refine Tab.below hT_ ?_; repeat (first | (with_reducible first | exact HB.out | apply below_alloc | apply pw_below_drewN | apply below_drew1) | exact HB.out))) (hr_ : r = true := by rfl) :
 Calls Tryd.prog 3 #[.slice A0 l0.length c0, .int .i64 a1, .int .i64 a2, .slice A3 l3.length c3] w fun e w' => e = .returned (.bool r) ∧ Below w.heap.size w w' := by
 have hu32 := Tryd.underlying32
 have HR0 := Aside0.mk hr0
 have HC0 := Aside0.mk hc0
 clear hr0 hc0
 have HR3 := Aside0.mk hr3
 have HC3 := Aside0.mk hc3
 clear hr3 hc3
 have HB := Aside0.mk (Below.refl w.heap.size w)
 have H : (warplaw8_TableAll.l0 k l0 a1 a2 l3 0 0) = some r := h
 clear h
 have H' := Aside0.mk H
 clear H
 go_enter Tryd.func3, Tryd.ntmps3
 go_wp2
 go_loopg [9, 10] k (fun kq v9 v10 w' => ∃ (x9_1 : Int) (x10_1 : Int), v9 = .int .i64 x9_1 ∧ v10 = .int .i64 x10_1 ∧ Aside0 (warplaw8_TableAll.l0 kq l0 a1 a2 l3 x9_1 x10_1 = some r) ∧ Aside0 (kq ≤ k) ∧ Aside0 (Below w.heap.size w w'))
 case atStart => exact ⟨(0), (0), (by first | rfl | (simp; done) | (simp [*]; done)), (by first | rfl | (simp; done) | (simp [*]; done)), H', ⟨Nat.le_refl _⟩, ⟨by repeat (first | (with_reducible first | exact HB.out | apply below_alloc | apply pw_below_drewN | apply below_drew1) | exact HB.out)⟩⟩
 case round =>
  clear H'
  (try clear p2); (try clear c3)
  obtain ⟨x9_1, x10_1, rfl, rfl, HA, HK1, HB⟩ := hrel
  cases gk with
  | zero => exact absurd HA.out (by simp [warplaw8_TableAll.l0])
  | succ k1 =>
   have H := HA.out
   clear HA
   simp only [warplaw8_TableAll.l0] at H
   have HC5 := Aside0.mk H
   clear H
   go_upto_region 3 with (fail)
   go_cut [24] (fun v24 wc => ∃ (kq : Nat) (x24_4 : Bool), v24 = .bool x24_4 ∧ Aside0 (warplaw8_TableAll.j1 kq l0 a1 a2 l3 x9_1 x10_1 x24_4 = some r) ∧ Aside0 (kq ≤ k1) ∧ Aside0 (Below w.heap.size w wc))
   case first =>
    have H := HC5.out
    clear HC5
    by_cases c6 : x10_1 < (l0.length : Int)
    ·
     rw [if_pos c6] at H
     have c6b0 : decide (x10_1 < (l0.length : Int)) = true := decide_eq_true c6
     clear c6
     (first | rw [c6b0] | (simp only [i64_w, i32_w]; rw [c6b0]) | skip)
     have H' := Aside0.mk H
     clear H
     go_wp2
     go_meet
     case rel => exact ⟨_, (decide (x10_1 < 70)), (by first | rfl | (simp; done) | (simp [*]; done)), H', ⟨by have := HK1.out; first | omega | exact Nat.le_refl _⟩, ⟨by repeat (first | (with_reducible first | exact HB.out | apply below_alloc | apply pw_below_drewN | apply below_drew1) | exact HB.out)⟩⟩
    ·
     rw [if_neg c6] at H
     have c6b0 : decide (x10_1 < (l0.length : Int)) = false := decide_eq_false c6
     clear c6
     (first | rw [c6b0] | (simp only [i64_w, i32_w]; rw [c6b0]) | skip)
     have H' := Aside0.mk H
     clear H
     go_wp2
     go_meet
     case rel => exact ⟨_, (false), (by first | rfl | (simp; done) | (simp [*]; done)), H', ⟨by have := HK1.out; first | omega | exact Nat.le_refl _⟩, ⟨by repeat (first | (with_reducible first | exact HB.out | apply below_alloc | apply pw_below_drewN | apply below_drew1) | exact HB.out)⟩⟩
   case rest =>
    clear HC5
    (try clear p2); (try clear c3); (try clear c6); (try clear c6b0); (try clear p2)
    obtain ⟨kq, x24_4, rfl, HA, HJ4, HB⟩ := hcut
    cases kq with
    | zero => exact absurd HA.out (by simp [warplaw8_TableAll.j1])
    | succ kj4 =>
     have H := HA.out
     clear HA
     simp only [warplaw8_TableAll.j1] at H
     by_cases c7 : x24_4 = true
     ·
      subst c7
      have H1 : (if 0 ≤ x10_1 then (if x10_1 < (l0.length : Int) then (warplaw8_TableAll.l1 kj4 l0 a1 a2 l3 (wrap64 (x9_1 + ((rd_L3 l0 x10_1).length : Int))) x10_1 0) else (none)) else (none)) = some r := by rw [if_pos rfl] at H; exact H
      clear H
      have H := H1
      clear H1
      by_cases c8 : 0 ≤ x10_1
      ·
       rw [if_pos c8] at H
       have c8b0 : decide (0 ≤ x10_1) = true := decide_eq_true c8
       clear c8
       by_cases c9 : x10_1 < (l0.length : Int)
       ·
        rw [if_pos c9] at H
        have c9b0 : decide (x10_1 < (l0.length : Int)) = true := decide_eq_true c9
        clear c9
        have H' := Aside0.mk H
        clear H
        have p129 : 0 ≤ (x10_1 : Int) := of_decide_eq_true (by first | (with_reducible assumption) | assumption)
        have q129 : x10_1 < (l0.length : Int) := of_decide_eq_true (by first | (with_reducible assumption) | assumption)
        obtain ⟨ad129, A129_0, c129_0, e129, hx129_0, hl129_0, hi129_0⟩ := at_L3 HR0.out x10_1 p129 q129
        cases e129
        replace hx129_0 := (HB.out.cell (World.block_lt_of_cell? w _ hx129_0)).trans hx129_0
        have HR129_0 := Aside0.mk hi129_0
        have HC129_0 := Aside0.mk hl129_0
        clear hi129_0 hl129_0
        replace p129 := eq_true p129
        replace q129 := eq_true q129
        go_wp2
        go_loopg [11] kj4 (fun kq v11 w' => ∃ (x11_3 : Int), v11 = .int .i64 x11_3 ∧ Aside0 (warplaw8_TableAll.l1 kq l0 a1 a2 l3 (wrap64 (x9_1 + ((rd_L3 l0 x10_1).length : Int))) x10_1 x11_3 = some r) ∧ Aside0 (kq ≤ kj4) ∧ Aside0 (Below w.heap.size w w'))
        case atStart => exact ⟨(0), (by first | rfl | (simp; done) | (simp [*]; done)), H', ⟨Nat.le_refl _⟩, ⟨by repeat (first | (with_reducible first | exact HB.out | apply below_alloc | apply pw_below_drewN | apply below_drew1) | exact HB.out)⟩⟩
        case round =>
         clear H'
         (try clear c1); (try clear p1); (try clear q1); (try clear hx1); (try clear p2); (try clear c3); (try clear c6); (try clear c6b0); (try clear p6); (try clear c7); (try clear c8); (try clear c8b0); (try clear c9); (try clear c9b0); (try clear hx129_0); (try clear p129); (try clear p2); (try clear q129)
         obtain ⟨x11_3, rfl, HA, HK3, HB⟩ := hrel
         cases gk with
         | zero => exact absurd HA.out (by simp [warplaw8_TableAll.l1])
         | succ k3 =>
          have H := HA.out
          clear HA
          simp only [warplaw8_TableAll.l1] at H
          have HC10 := Aside0.mk H
          clear H
          go_upto_region 7 with (fail)
          go_cut [44] (fun v44 wc => ∃ (kq : Nat) (x44_9 : Bool), v44 = .bool x44_9 ∧ Aside0 (warplaw8_TableAll.j3 kq l0 a1 a2 l3 (wrap64 (x9_1 + ((rd_L3 l0 x10_1).length : Int))) x10_1 x11_3 x44_9 = some r) ∧ Aside0 (kq ≤ k3) ∧ Aside0 (Below w.heap.size w wc))
          case first =>
           have H := HC10.out
           clear HC10
           by_cases c11 : 0 ≤ x10_1
           ·
            rw [if_pos c11] at H
            have c11b0 : decide (0 ≤ x10_1) = true := decide_eq_true c11
            clear c11
            (first | rw [c11b0] | (simp only [i64_w, i32_w]; rw [c11b0]) | skip)
            by_cases c12 : x10_1 < (l0.length : Int)
            ·
             rw [if_pos c12] at H
             have c12b0 : decide (x10_1 < (l0.length : Int)) = true := decide_eq_true c12
             clear c12
             by_cases c13 : x11_3 < ((rd_L3 l0 x10_1).length : Int)
             ·
              rw [if_pos c13] at H
              have c13b0 : decide (x11_3 < ((rd_L3 l0 x10_1).length : Int)) = true := decide_eq_true c13
              clear c13
              have H' := Aside0.mk H
              clear H
              have p130 : 0 ≤ (x10_1 : Int) := of_decide_eq_true (by first | (with_reducible assumption) | assumption)
              have q130 : x10_1 < (l0.length : Int) := of_decide_eq_true (by first | (with_reducible assumption) | assumption)
              obtain ⟨ad130, A130_0, c130_0, e130, hx130_0, hl130_0, hi130_0⟩ := at_L3 HR0.out x10_1 p130 q130
              obtain rfl : ad129 = ad130 := (by injection e130)
              replace hx130_0 := (HB.out.cell (World.block_lt_of_cell? w _ hx130_0)).trans hx130_0
              have HR130_0 := Aside0.mk hi130_0
              have HC130_0 := Aside0.mk hl130_0
              clear hi130_0 hl130_0
              replace p130 := eq_true p130
              replace q130 := eq_true q130
              go_wp2
              go_meet
              case rel => exact ⟨_, (decide (x11_3 < 100)), (by first | rfl | (simp; done) | (simp [*]; done)), H', ⟨by have := HK1.out; have := HJ4.out; have := HK3.out; first | omega | exact Nat.le_refl _⟩, ⟨by repeat (first | (with_reducible first | exact HB.out | apply below_alloc | apply pw_below_drewN | apply below_drew1) | exact HB.out)⟩⟩
             ·
              rw [if_neg c13] at H
              have c13b0 : decide (x11_3 < ((rd_L3 l0 x10_1).length : Int)) = false := decide_eq_false c13
              clear c13
              have H' := Aside0.mk H
              clear H
              have p130 : 0 ≤ (x10_1 : Int) := of_decide_eq_true (by first | (with_reducible assumption) | assumption)
              have q130 : x10_1 < (l0.length : Int) := of_decide_eq_true (by first | (with_reducible assumption) | assumption)
              obtain ⟨ad130, A130_0, c130_0, e130, hx130_0, hl130_0, hi130_0⟩ := at_L3 HR0.out x10_1 p130 q130
              obtain rfl : ad129 = ad130 := (by injection e130)
              replace hx130_0 := (HB.out.cell (World.block_lt_of_cell? w _ hx130_0)).trans hx130_0
              have HR130_0 := Aside0.mk hi130_0
              have HC130_0 := Aside0.mk hl130_0
              clear hi130_0 hl130_0
              replace p130 := eq_true p130
              replace q130 := eq_true q130
              go_wp2
              go_meet
              case rel => exact ⟨_, (false), (by first | rfl | (simp; done) | (simp [*]; done)), H', ⟨by have := HK1.out; have := HJ4.out; have := HK3.out; first | omega | exact Nat.le_refl _⟩, ⟨by repeat (first | (with_reducible first | exact HB.out | apply below_alloc | apply pw_below_drewN | apply below_drew1) | exact HB.out)⟩⟩
            ·
             rw [if_neg c12] at H
             exact absurd H (by simp)
           ·
            rw [if_neg c11] at H
            exact absurd H (by simp)
          case rest =>
           clear HC10
           (try clear c1); (try clear p1); (try clear q1); (try clear hx1); (try clear p2); (try clear c3); (try clear c6); (try clear c6b0); (try clear p6); (try clear c7); (try clear c8); (try clear c8b0); (try clear c9); (try clear c9b0); (try clear c11); (try clear c11b0); (try clear c12); (try clear c12b0); (try clear p12); (try clear q12); (try clear hx12); (try clear c13); (try clear c13b0); (try clear p13); (try clear q13); (try clear hx13); (try clear hx129_0); (try clear hx130_0); (try clear p1); (try clear p129); (try clear p130); (try clear p2); (try clear p6); (try clear q1); (try clear q129); (try clear q130)
           obtain ⟨kq, x44_9, rfl, HA, HJ9, HB⟩ := hcut
           cases kq with
           | zero => exact absurd HA.out (by simp [warplaw8_TableAll.j3])
           | succ kj9 =>
            have H := HA.out
            clear HA
            simp only [warplaw8_TableAll.j3] at H
            by_cases c14 : x44_9 = true
            ·
             subst c14
             have H1 : (if 0 ≤ x10_1 then (if x10_1 < (l0.length : Int) then (if 0 ≤ x11_3 then (if x11_3 < ((rd_L3 l0 x10_1).length : Int) then (if (((rd_T26 (rd_L3 l0 x10_1) x11_3).f0).size : Int) > 100 then ((warplaw8_awake.f kj9).bind fun t133 => (some t133)) else (warplaw8_TableAll.l1 kj9 l0 a1 a2 l3 (wrap64 (x9_1 + ((rd_L3 l0 x10_1).length : Int))) x10_1 (wrap64 (x11_3 + 1)))) else (none)) else (none)) else (none)) else (none)) = some r := by rw [if_pos rfl] at H; exact H
             clear H
             have H := H1
             clear H1
             by_cases c15 : 0 ≤ x10_1
             ·
              rw [if_pos c15] at H
              have c15b0 : decide (0 ≤ x10_1) = true := decide_eq_true c15
              clear c15
              by_cases c16 : x10_1 < (l0.length : Int)
              ·
               rw [if_pos c16] at H
               have c16b0 : decide (x10_1 < (l0.length : Int)) = true := decide_eq_true c16
               clear c16
               by_cases c17 : 0 ≤ x11_3
               ·
                rw [if_pos c17] at H
                have c17b0 : decide (0 ≤ x11_3) = true := decide_eq_true c17
                clear c17
                by_cases c18 : x11_3 < ((rd_L3 l0 x10_1).length : Int)
                ·
                 rw [if_pos c18] at H
                 have c18b0 : decide (x11_3 < ((rd_L3 l0 x10_1).length : Int)) = true := decide_eq_true c18
                 clear c18
                 by_cases c19 : (((rd_T26 (rd_L3 l0 x10_1) x11_3).f0).size : Int) > 100
                 ·
                  rw [if_pos c19] at H
                  have c19b0 : decide (100 < (((rd_T26 (rd_L3 l0 x10_1) x11_3).f0).size : Int)) = true := decide_eq_true c19
                  have c19b1 : decide (100 < ((rd_T26 (rd_L3 l0 x10_1) x11_3).f0).size) = true := decide_eq_true (by omega)
                  clear c19
                  replace H := Option.bind_eq_some_iff.mp H
                  obtain ⟨t133, A200, H⟩ := H
                  replace H : (some t133) = some r := H
                  have A20 := Aside0.mk A200
                  clear A200
                  obtain rfl := Option.some.inj H
                  have p131 : 0 ≤ (x10_1 : Int) := of_decide_eq_true (by first | (with_reducible assumption) | assumption)
                  have q131 : x10_1 < (l0.length : Int) := of_decide_eq_true (by first | (with_reducible assumption) | assumption)
                  obtain ⟨ad131, A131_0, c131_0, e131, hx131_0, hl131_0, hi131_0⟩ := at_L3 HR0.out x10_1 p131 q131
                  obtain rfl : ad129 = ad131 := (by injection e131)
                  replace hx131_0 := (HB.out.cell (World.block_lt_of_cell? w _ hx131_0)).trans hx131_0
                  have HR131_0 := Aside0.mk hi131_0
                  have HC131_0 := Aside0.mk hl131_0
                  clear hi131_0 hl131_0
                  replace p131 := eq_true p131
                  replace q131 := eq_true q131
                  have p132 : 0 ≤ (x11_3 : Int) := of_decide_eq_true (by first | (with_reducible assumption) | assumption)
                  have q132 : x11_3 < ((rd_L3 l0 x10_1).length : Int) := of_decide_eq_true (by first | (with_reducible assumption) | assumption)
                  obtain ⟨ad132, e132, hx132_0, hx132_1, hx132_2⟩ := at_T26 HR131_0.out x11_3 p132 q132
                  cases e132
                  replace hx132_0 := (HB.out.cell (World.block_lt_of_cell? w _ hx132_0)).trans hx132_0
                  replace hx132_1 := (HB.out.cell (World.block_lt_of_cell? w _ hx132_1)).trans hx132_1
                  replace hx132_2 := (HB.out.cell (World.block_lt_of_cell? w _ hx132_2)).trans hx132_2
                  replace p132 := eq_true p132
                  replace q132 := eq_true q132
                  go_wp2_with (first | ((with_reducible refine gate_callee (f := 8) rfl ?_); refine goesL_ (some 57) rfl rfl Tryd.func8 (by kernel_rfl) rfl #[] rfl (by (try simp only [List.map_toArray, List.map_cons, List.map_nil]); first | done | rfl | (simp only [List.length_drop, List.length_take]; rfl)) ?_; (with_reducible refine (warplaw8_awake.calls kj9  t133 _ A20.out).mono ?_); rintro e w21 ⟨rfl, hb⟩; refine ⟨_, rfl, ?_⟩; have n0_ := Aside0.mk (below_step (by repeat (first | (with_reducible first | exact HB.out | apply below_alloc | apply pw_below_drewN | apply below_drew1) | exact HB.out)) hb); clear HB; have HB := n0_; clear n0_; (try clear hb); (try clear hb2); (try clear hk); (try clear hi)))
                  go_ret
                  exact ⟨by first | rfl | (simp [errW_none, errW_some] <;> rfl) | (simp [*, errW_none, errW_some] <;> rfl), by repeat (first | (with_reducible first | exact HB.out | apply below_alloc | apply pw_below_drewN | apply below_drew1) | exact HB.out)⟩
                 ·
                  rw [if_neg c19] at H
                  have c19b0 : decide (100 < (((rd_T26 (rd_L3 l0 x10_1) x11_3).f0).size : Int)) = false := decide_eq_false c19
                  have c19b1 : decide (100 < ((rd_T26 (rd_L3 l0 x10_1) x11_3).f0).size) = false := decide_eq_false (by omega)
                  clear c19
                  have H' := Aside0.mk H
                  clear H
                  have p131 : 0 ≤ (x10_1 : Int) := of_decide_eq_true (by first | (with_reducible assumption) | assumption)
                  have q131 : x10_1 < (l0.length : Int) := of_decide_eq_true (by first | (with_reducible assumption) | assumption)
                  obtain ⟨ad131, A131_0, c131_0, e131, hx131_0, hl131_0, hi131_0⟩ := at_L3 HR0.out x10_1 p131 q131
                  obtain rfl : ad129 = ad131 := (by injection e131)
                  replace hx131_0 := (HB.out.cell (World.block_lt_of_cell? w _ hx131_0)).trans hx131_0
                  have HR131_0 := Aside0.mk hi131_0
                  have HC131_0 := Aside0.mk hl131_0
                  clear hi131_0 hl131_0
                  replace p131 := eq_true p131
                  replace q131 := eq_true q131
                  have p132 : 0 ≤ (x11_3 : Int) := of_decide_eq_true (by first | (with_reducible assumption) | assumption)
                  have q132 : x11_3 < ((rd_L3 l0 x10_1).length : Int) := of_decide_eq_true (by first | (with_reducible assumption) | assumption)
                  obtain ⟨ad132, e132, hx132_0, hx132_1, hx132_2⟩ := at_T26 HR131_0.out x11_3 p132 q132
                  cases e132
                  replace hx132_0 := (HB.out.cell (World.block_lt_of_cell? w _ hx132_0)).trans hx132_0
                  replace hx132_1 := (HB.out.cell (World.block_lt_of_cell? w _ hx132_1)).trans hx132_1
                  replace hx132_2 := (HB.out.cell (World.block_lt_of_cell? w _ hx132_2)).trans hx132_2
                  replace p132 := eq_true p132
                  replace q132 := eq_true q132
                  go_wp2
                  go_roundg kj9
                  case measure => have := HK1.out; have := HJ4.out; have := HK3.out; have := HJ9.out; omega
                  case rel => exact ⟨(wrap64 (x11_3 + 1)), (by first | rfl | (simp; done) | (simp [*]; done)), H', ⟨by have := HK1.out; have := HJ4.out; have := HK3.out; have := HJ9.out; omega⟩, ⟨by repeat (first | (with_reducible first | exact HB.out | apply below_alloc | apply pw_below_drewN | apply below_drew1) | exact HB.out)⟩⟩
                ·
                 rw [if_neg c18] at H
                 exact absurd H (by simp)
               ·
                rw [if_neg c17] at H
                exact absurd H (by simp)
              ·
               rw [if_neg c16] at H
               exact absurd H (by simp)
             ·
              rw [if_neg c15] at H
              exact absurd H (by simp)
            ·
             replace c14 := Bool.eq_false_iff.mpr c14
             subst c14
             have H1 : (warplaw8_TableAll.l0 kj9 l0 a1 a2 l3 (wrap64 (x9_1 + ((rd_L3 l0 x10_1).length : Int))) (wrap64 (x10_1 + 1))) = some r := by rw [if_neg (show ¬ (false = true) by decide)] at H; exact H
             clear H
             have H := H1
             clear H1
             have H' := Aside0.mk H
             clear H
             go_wp2
             go_roundg kj9
             case measure => have := HK1.out; have := HJ4.out; have := HK3.out; have := HJ9.out; omega
             case rel => exact ⟨((wrap64 (x9_1 + ((rd_L3 l0 x10_1).length : Int)))), (wrap64 (x10_1 + 1)), (by first | rfl | (simp; done) | (simp [*]; done)), (by first | rfl | (simp; done) | (simp [*]; done)), H', ⟨by have := HK1.out; have := HJ4.out; have := HK3.out; have := HJ9.out; omega⟩, ⟨by repeat (first | (with_reducible first | exact HB.out | apply below_alloc | apply pw_below_drewN | apply below_drew1) | exact HB.out)⟩⟩
       ·
        rw [if_neg c9] at H
        exact absurd H (by simp)
      ·
       rw [if_neg c8] at H
       exact absurd H (by simp)
     ·
      replace c7 := Bool.eq_false_iff.mpr c7
      subst c7
      have H1 : (if x9_1 > 80 then (warplaw8_TableAll.j4 kj4 l0 a1 a2 l3 true) else (if (l0.length : Int) > 66 then (warplaw8_TableAll.j4 kj4 l0 a1 a2 l3 true) else (warplaw8_TableAll.j4 kj4 l0 a1 a2 l3 (decide ((l3.length : Int) > 500))))) = some r := by rw [if_neg (show ¬ (false = true) by decide)] at H; exact H
      clear H
      have H := H1
      clear H1
      have HC22 := Aside0.mk H
      clear H
      go_upto_region 11 with (fail)
      go_cut [69] (fun v69 wc => ∃ (kq : Nat) (x69_21 : Bool), v69 = .bool x69_21 ∧ Aside0 (warplaw8_TableAll.j4 kq l0 a1 a2 l3 x69_21 = some r) ∧ Aside0 (kq ≤ kj4) ∧ Aside0 (Below w.heap.size w wc))
      case first =>
       have H := HC22.out
       clear HC22
       by_cases c23 : x9_1 > 80
       ·
        rw [if_pos c23] at H
        have c23b0 : decide (80 < x9_1) = true := decide_eq_true c23
        clear c23
        (first | rw [c23b0] | (simp only [i64_w, i32_w]; rw [c23b0]) | skip)
        have H' := Aside0.mk H
        clear H
        go_wp2
        go_meet
        case rel => exact ⟨_, (true), (by first | rfl | (simp; done) | (simp [*]; done)), H', ⟨by have := HK1.out; have := HJ4.out; first | omega | exact Nat.le_refl _⟩, ⟨by repeat (first | (with_reducible first | exact HB.out | apply below_alloc | apply pw_below_drewN | apply below_drew1) | exact HB.out)⟩⟩
       ·
        rw [if_neg c23] at H
        have c23b0 : decide (80 < x9_1) = false := decide_eq_false c23
        clear c23
        (first | rw [c23b0] | (simp only [i64_w, i32_w]; rw [c23b0]) | skip)
        by_cases c24 : (l0.length : Int) > 66
        ·
         rw [if_pos c24] at H
         have c24b0 : decide (66 < (l0.length : Int)) = true := decide_eq_true c24
         have c24b1 : decide (66 < l0.length) = true := decide_eq_true (by omega)
         clear c24
         have H' := Aside0.mk H
         clear H
         go_wp2
         go_meet
         case rel => exact ⟨_, (true), (by first | rfl | (simp; done) | (simp [*]; done)), H', ⟨by have := HK1.out; have := HJ4.out; first | omega | exact Nat.le_refl _⟩, ⟨by repeat (first | (with_reducible first | exact HB.out | apply below_alloc | apply pw_below_drewN | apply below_drew1) | exact HB.out)⟩⟩
        ·
         rw [if_neg c24] at H
         have c24b0 : decide (66 < (l0.length : Int)) = false := decide_eq_false c24
         have c24b1 : decide (66 < l0.length) = false := decide_eq_false (by omega)
         clear c24
         have H' := Aside0.mk H
         clear H
         go_wp2
         go_meet
         case rel => exact ⟨_, (decide ((l3.length : Int) > 500)), (by first | rfl | (simp; done) | (simp [*]; done)), H', ⟨by have := HK1.out; have := HJ4.out; first | omega | exact Nat.le_refl _⟩, ⟨by repeat (first | (with_reducible first | exact HB.out | apply below_alloc | apply pw_below_drewN | apply below_drew1) | exact HB.out)⟩⟩
      case rest =>
       clear HC22
       (try clear c1); (try clear p1); (try clear q1); (try clear hx1); (try clear c2); (try clear p2); (try clear c3); (try clear c6); (try clear c6b0); (try clear p6); (try clear c7); (try clear c8); (try clear c8b0); (try clear c9); (try clear c9b0); (try clear c11); (try clear c11b0); (try clear c12); (try clear c12b0); (try clear p12); (try clear q12); (try clear hx12); (try clear c13); (try clear c13b0); (try clear p13); (try clear q13); (try clear hx13); (try clear c14); (try clear c15); (try clear c15b0); (try clear c16); (try clear c16b0); (try clear c17); (try clear c17b0); (try clear c18); (try clear c18b0); (try clear c19); (try clear c19b0); (try clear c19b1); (try clear c23); (try clear c23b0); (try clear c24); (try clear c24b0); (try clear c24b1); (try clear hx129_0); (try clear hx130_0); (try clear hx131_0); (try clear hx132_0); (try clear hx132_1); (try clear hx132_2); (try clear p1); (try clear p12); (try clear p129); (try clear p13); (try clear p130); (try clear p131); (try clear p132); (try clear p2); (try clear p6); (try clear q1); (try clear q12); (try clear q129); (try clear q13); (try clear q130); (try clear q131); (try clear q132)
       obtain ⟨kq, x69_21, rfl, HA, HJ21, HB⟩ := hcut
       cases kq with
       | zero => exact absurd HA.out (by simp [warplaw8_TableAll.j4])
       | succ kj21 =>
        have H := HA.out
        clear HA
        simp only [warplaw8_TableAll.j4] at H
        by_cases c25 : x69_21 = true
        ·
         subst c25
         have H1 : ((warplaw8_awake.f kj21).bind fun t134 => (some t134)) = some r := by rw [if_pos rfl] at H; exact H
         clear H
         have H := H1
         clear H1
         replace H := Option.bind_eq_some_iff.mp H
         obtain ⟨t134, A260, H⟩ := H
         replace H : (some t134) = some r := H
         have A26 := Aside0.mk A260
         clear A260
         obtain rfl := Option.some.inj H
         go_wp2_with (first | ((with_reducible refine gate_callee (f := 8) rfl ?_); refine goesL_ (some 70) rfl rfl Tryd.func8 (by kernel_rfl) rfl #[] rfl (by (try simp only [List.map_toArray, List.map_cons, List.map_nil]); first | done | rfl | (simp only [List.length_drop, List.length_take]; rfl)) ?_; (with_reducible refine (warplaw8_awake.calls kj21  t134 _ A26.out).mono ?_); rintro e w27 ⟨rfl, hb⟩; refine ⟨_, rfl, ?_⟩; have n0_ := Aside0.mk (below_step (by repeat (first | (with_reducible first | exact HB.out | apply below_alloc | apply pw_below_drewN | apply below_drew1) | exact HB.out)) hb); clear HB; have HB := n0_; clear n0_; (try clear hb); (try clear hb2); (try clear hk); (try clear hi)))
         go_ret
         exact ⟨by first | rfl | (simp [errW_none, errW_some] <;> rfl) | (simp [*, errW_none, errW_some] <;> rfl), by repeat (first | (with_reducible first | exact HB.out | apply below_alloc | apply pw_below_drewN | apply below_drew1) | exact HB.out)⟩
        ·
         replace c25 := Bool.eq_false_iff.mpr c25
         subst c25
         have H1 : ((table_Play.f l0 a1 a2 l3).bind fun bt135 => ((warpref1_Table.f l0 a1 a2 l3).bind fun bt143 => ((warplaw8_lists.f kj21 bt135.1 bt143.1).bind fun t152 => (if t152 = true then ((warplaw8_same.f kj21 bt135.2.1 bt143.2.1).bind fun t153 => (if t153 = true then (if bt135.2.2.1 = bt143.2.2.1 then (if bt135.2.2.2 = bt143.2.2.2 then ((warplaw8_awake.f kj21).bind fun t154 => (some t154)) else (some false)) else (some false)) else (some false))) else (some false))))) = some r := by rw [if_neg (show ¬ (false = true) by decide)] at H; exact H
         clear H
         have H := H1
         clear H1
         replace H := Option.bind_eq_some_iff.mp H
         obtain ⟨⟨t135, t136, t137, t138⟩, A280, H⟩ := H
         replace H : ((warpref1_Table.f l0 a1 a2 l3).bind fun bt143 => ((warplaw8_lists.f kj21 t135 bt143.1).bind fun t152 => (if t152 = true then ((warplaw8_same.f kj21 t136 bt143.2.1).bind fun t153 => (if t153 = true then (if t137 = bt143.2.2.1 then (if t138 = bt143.2.2.2 then ((warplaw8_awake.f kj21).bind fun t154 => (some t154)) else (some false)) else (some false)) else (some false))) else (some false)))) = some r := H
         have A28 := Aside0.mk A280
         clear A280
         replace H := Option.bind_eq_some_iff.mp H
         obtain ⟨⟨t143, t146, t149, t150⟩, A290, H⟩ := H
         replace H : ((warplaw8_lists.f kj21 t135 t143).bind fun t152 => (if t152 = true then ((warplaw8_same.f kj21 t136 t146).bind fun t153 => (if t153 = true then (if t137 = t149 then (if t138 = t150 then ((warplaw8_awake.f kj21).bind fun t154 => (some t154)) else (some false)) else (some false)) else (some false))) else (some false))) = some r := H
         have A29 := Aside0.mk A290
         clear A290
         replace H := Option.bind_eq_some_iff.mp H
         obtain ⟨t152, A300, H⟩ := H
         replace H : (if t152 = true then ((warplaw8_same.f kj21 t136 t146).bind fun t153 => (if t153 = true then (if t137 = t149 then (if t138 = t150 then ((warplaw8_awake.f kj21).bind fun t154 => (some t154)) else (some false)) else (some false)) else (some false))) else (some false)) = some r := H
         have A30 := Aside0.mk A300
         clear A300
         by_cases c31 : t152 = true
         ·
          subst c31
          have H1 : ((warplaw8_same.f kj21 t136 t146).bind fun t153 => (if t153 = true then (if t137 = t149 then (if t138 = t150 then ((warplaw8_awake.f kj21).bind fun t154 => (some t154)) else (some false)) else (some false)) else (some false))) = some r := by rw [if_pos rfl] at H; exact H
          clear H
          have H := H1
          clear H1
          replace H := Option.bind_eq_some_iff.mp H
          obtain ⟨t153, A320, H⟩ := H
          replace H : (if t153 = true then (if t137 = t149 then (if t138 = t150 then ((warplaw8_awake.f kj21).bind fun t154 => (some t154)) else (some false)) else (some false)) else (some false)) = some r := H
          have A32 := Aside0.mk A320
          clear A320
          by_cases c33 : t153 = true
          ·
           subst c33
           have H1 : (if t137 = t149 then (if t138 = t150 then ((warplaw8_awake.f kj21).bind fun t154 => (some t154)) else (some false)) else (some false)) = some r := by rw [if_pos rfl] at H; exact H
           clear H
           have H := H1
           clear H1
           by_cases c34 : t137 = t149
           ·
            rw [if_pos c34] at H
            have c34b0 : (t137 == t149) = true := beq_iff_eq.mpr c34
            have c34b1 : (t137 != t149) = false := bne_eq_false_iff_eq.mpr c34
            clear c34
            by_cases c35 : t138 = t150
            ·
             rw [if_pos c35] at H
             have c35b0 : (t138 == t150) = true := beq_iff_eq.mpr c35
             have c35b1 : (t138 != t150) = false := bne_eq_false_iff_eq.mpr c35
             clear c35
             replace H := Option.bind_eq_some_iff.mp H
             obtain ⟨t154, A360, H⟩ := H
             replace H : (some t154) = some r := H
             have A36 := Aside0.mk A360
             clear A360
             obtain rfl := Option.some.inj H
             go_wp2_with (first | ((with_reducible refine gate_callee (f := 9) rfl ?_); refine goesL_ (some 76) rfl rfl Tryd.func9 (by kernel_rfl) rfl #[.slice A0 l0.length c0, .int .i64 a1, .int .i64 a2, .slice A3 l3.length c3] rfl (by (try simp only [List.map_toArray, List.map_cons, List.map_nil]); first | done | rfl | (simp only [List.length_drop, List.length_take]; rfl)) ?_; (with_reducible refine (table_Play.calls _ _ l0 a1 a2 _ _ l3 t135 t136 t137 t138 _ ?side1 ?side2 ?side3 ?side4 A28.out).mono ?_); (case side1 => repeat (first | exact (Kd.C_below HR0.out HB.out) | (with_reducible refine Kd.C_alloc ?_ _) | (with_reducible refine Kd.C_drewN ?_ _) | (with_reducible refine Kd.C_drew ?_))); (case side2 => exact HC0.out); (case side3 => repeat (first | exact (Kd.C_below HR3.out HB.out) | (with_reducible refine Kd.C_alloc ?_ _) | (with_reducible refine Kd.C_drewN ?_ _) | (with_reducible refine Kd.C_drew ?_))); (case side4 => exact HC3.out); rintro e w37 ⟨v139, v141, rfl, ho0, ho1, hb⟩; refine ⟨_, rfl, ?_⟩; have n0_ := Aside0.mk (Kd.S_lower ho0 (below_size (by repeat (first | (with_reducible first | exact HB.out | apply below_alloc | apply pw_below_drewN | apply below_drew1) | exact HB.out)))); have n1_ := Aside0.mk (Kd.R_lower ho1 (below_size (by repeat (first | (with_reducible first | exact HB.out | apply below_alloc | apply pw_below_drewN | apply below_drew1) | exact HB.out)))); have n2_ := Aside0.mk (below_step (by repeat (first | (with_reducible first | exact HB.out | apply below_alloc | apply pw_below_drewN | apply below_drew1) | exact HB.out)) hb); clear HB; have HO140 := n0_; have HO142 := n1_; have HB := n2_; clear n0_ n1_ n2_; (try clear hb); (try clear hb2); (try clear hk); (try clear hi); (try clear ho0); (try clear ho1)) | ((with_reducible refine gate_callee (f := 10) rfl ?_); refine goesL_ (some 85) rfl rfl Tryd.func10 (by kernel_rfl) rfl #[.slice A0 l0.length c0, .int .i64 a1, .int .i64 a2, .slice A3 l3.length c3] rfl (by (try simp only [List.map_toArray, List.map_cons, List.map_nil]); first | done | rfl | (simp only [List.length_drop, List.length_take]; rfl)) ?_; (with_reducible refine (warpref1_Table.calls _ _ l0 a1 a2 _ _ l3 t143 t146 t149 t150 _ ?side1 ?side2 ?side3 ?side4 A29.out).mono ?_); (case side1 => repeat (first | exact (Kd.C_below HR0.out HB.out) | (with_reducible refine Kd.C_alloc ?_ _) | (with_reducible refine Kd.C_drewN ?_ _) | (with_reducible refine Kd.C_drew ?_))); (case side2 => exact HC0.out); (case side3 => repeat (first | exact (Kd.C_below HR3.out HB.out) | (with_reducible refine Kd.C_alloc ?_ _) | (with_reducible refine Kd.C_drewN ?_ _) | (with_reducible refine Kd.C_drew ?_))); (case side4 => exact HC3.out); rintro e w38 ⟨v144, v147, rfl, ho0, ho1, hb⟩; refine ⟨_, rfl, ?_⟩; have n0_ := Aside0.mk (Kd.S_elder' (by (with_reducible repeat (first | apply Kd.S_alloc | apply Kd.S_drewN | apply Kd.S_drew)); exact HO140.out) (Kd.S_base ho0) hb); have n1_ := Aside0.mk (Kd.R_elder' (by (with_reducible repeat (first | apply Kd.R_alloc | apply Kd.R_drewN | apply Kd.R_drew)); exact HO142.out) (Kd.R_base ho1) hb); have n2_ := Aside0.mk (Kd.S_lower (Kd.S_new' ho0 (Kd.S_lt (by (with_reducible repeat (first | apply Kd.S_alloc | apply Kd.S_drewN | apply Kd.S_drew)); exact HO140.out))) (below_size (by repeat (first | (with_reducible first | exact HB.out | apply below_alloc | apply pw_below_drewN | apply below_drew1) | exact HB.out)))); have n3_ := Aside0.mk (Kd.R_lower (Kd.R_new' ho1 (Kd.R_lt (by (with_reducible repeat (first | apply Kd.R_alloc | apply Kd.R_drewN | apply Kd.R_drew)); exact HO142.out))) (below_size (by repeat (first | (with_reducible first | exact HB.out | apply below_alloc | apply pw_below_drewN | apply below_drew1) | exact HB.out)))); have n4_ := Aside0.mk (below_step (by repeat (first | (with_reducible first | exact HB.out | apply below_alloc | apply pw_below_drewN | apply below_drew1) | exact HB.out)) hb); clear HO140; clear HO142; clear HB; have HO140 := n0_; have HO142 := n1_; have HO145 := n2_; have HO148 := n3_; have HB := n4_; clear n0_ n1_ n2_ n3_ n4_; (try clear hb); (try clear hb2); (try clear hk); (try clear hi); (try clear ho0); (try clear ho1)) | ((with_reducible refine gate_dst (N := 16) rfl ?_); (try (refine gate_guard (by rfl) ?_; dsimp only)); refine box_event ?hg (N := 16) ?hd (cs := #[.slice none 0 0, .slice none 0 0, .int .i64 0, .int .i64 0]) (t := 32) ?hr ?_; (case hd => rfl); (case hg => rfl); (case hr => first | (go_simp; done) | (go_simp; rfl)); intro gb151 hg w39 hbox hb; have n0_ := Aside0.mk (Kd.S_below (by (with_reducible repeat (first | apply Kd.S_alloc | apply Kd.S_drewN | apply Kd.S_drew)); exact HO140.out) hb); have n1_ := Aside0.mk (Kd.R_below (by (with_reducible repeat (first | apply Kd.R_alloc | apply Kd.R_drewN | apply Kd.R_drew)); exact HO142.out) hb); have n2_ := Aside0.mk (Kd.S_below (by (with_reducible repeat (first | apply Kd.S_alloc | apply Kd.S_drewN | apply Kd.S_drew)); exact HO145.out) hb); have n3_ := Aside0.mk (Kd.R_below (by (with_reducible repeat (first | apply Kd.R_alloc | apply Kd.R_drewN | apply Kd.R_drew)); exact HO148.out) hb); have n4_ := Aside0.mk (below_step (by repeat (first | (with_reducible first | exact HB.out | apply below_alloc | apply pw_below_drewN | apply below_drew1) | exact HB.out)) hb); have n5_ := Aside0.mk (hbox); have n6_ := Aside0.mk ((by rw [hg]; exact (below_size (by repeat (first | (with_reducible first | exact HB.out | apply below_alloc | apply pw_below_drewN | apply below_drew1) | exact HB.out))) : w.heap.size ≤ gb151)); have n7_ := Aside0.mk ((by rw [hg]; exact (below_size (by repeat (first | (with_reducible first | exact HB.out | apply below_alloc | apply pw_below_drewN | apply below_drew1) | exact HB.out))) : w.heap.size ≤ gb151)); clear HO140; clear HO142; clear HO145; clear HO148; clear HB; have HO140 := n0_; have HO142 := n1_; have HO145 := n2_; have HO148 := n3_; have HB := n4_; have BK151 := n5_; have GW151 := n6_; have GE151 := n7_; clear n0_ n1_ n2_ n3_ n4_ n5_ n6_ n7_; clear hb hbox hg; obtain ⟨Ao40, co40, eo40⟩ := Kd.S_slice HO145.out; subst eo40; have hcz41_0 : w39.cell? ⟨gb151, 0, none⟩ = some (.slice none 0 0) := (blk_cell BK151.out 0).trans rfl; have hcz41_1 : w39.cell? ⟨gb151, 1, none⟩ = some (.slice none 0 0) := (blk_cell BK151.out 1).trans rfl; have hcz41_2 : w39.cell? ⟨gb151, 2, none⟩ = some (.int .i64 0) := (blk_cell BK151.out 2).trans rfl; have hcz41_3 : w39.cell? ⟨gb151, 3, none⟩ = some (.int .i64 0) := (blk_cell BK151.out 3).trans rfl; have hfz41_0 := blk_frozen BK151.out 0; have hfz41_1 := blk_frozen BK151.out 1; have hfz41_2 := blk_frozen BK151.out 2; have hfz41_3 := blk_frozen BK151.out 3; obtain ⟨Ao42, co42, eo42⟩ := Kd.R_slice HO148.out; subst eo42; obtain ⟨Ao43, co43, eo43⟩ := Kd.S_slice HO140.out; subst eo43) | ((with_reducible refine gate_callee (f := 11) rfl ?_); refine goesL_ (some 89) rfl rfl Tryd.func11 (by kernel_rfl) rfl #[.slice Ao43 t135.length co43, .slice Ao40 t143.length co40] rfl (by (try simp only [List.map_toArray, List.map_cons, List.map_nil]); first | done | rfl | (simp only [List.length_drop, List.length_take]; rfl)) ?_; (with_reducible refine (warplaw8_lists.calls kj21 _ _ t135 _ _ t143 true _ ?side1 ?side2 ?side3 ?side4 A30.out).mono ?_); (case side1 => refine (Kd.S_reads' (e := 23) (base := w.heap.size) (ok := fun k_ => (True ∧ some k_ ≠ (.slice Ao40 t143.length co40 : Value).ownBlock)) (n := t135.length) (c := co43) ?_).2.2; exact (by (with_reducible repeat (first | apply Kd.S_alloc | apply Kd.S_drewN | apply Kd.S_drew)); exact (Kd.S_mono (Kd.S_far (p := ⟨gb151, 3, none⟩) (Kd.S_far (p := ⟨gb151, 2, none⟩) (Kd.S_far (p := ⟨gb151, 1, none⟩) (Kd.S_far (p := ⟨gb151, 0, none⟩) (Kd.S_types HO140.out BK151.out (by decide)) (fun _ hk => hk.2) (.slice Ao40 t143.length co40)) (fun _ hk => hk.2) (.slice Ao42 t146.length co42)) (fun _ hk => hk.2) (.int .i64 t149)) (fun _ hk => hk.2) (.int .i64 t150)) (fun _ h_ => h_.1)))); (case side2 => exact (Kd.S_reads' HO140.out).2.1); (case side3 => refine (Kd.S_reads' (e := 23) (base := w.heap.size) (ok := fun k_ => (True ∧ some k_ ≠ (.slice Ao43 t135.length co43 : Value).ownBlock)) (n := t143.length) (c := co40) ?_).2.2; exact (by (with_reducible repeat (first | apply Kd.S_alloc | apply Kd.S_drewN | apply Kd.S_drew)); exact (Kd.S_mono (Kd.S_far (p := ⟨gb151, 3, none⟩) (Kd.S_far (p := ⟨gb151, 2, none⟩) (Kd.S_far (p := ⟨gb151, 1, none⟩) (Kd.S_far (p := ⟨gb151, 0, none⟩) (Kd.S_types HO145.out BK151.out (by decide)) (fun _ hk => hk.2) (.slice Ao40 t143.length co40)) (fun _ hk => hk.2) (.slice Ao42 t146.length co42)) (fun _ hk => hk.2) (.int .i64 t149)) (fun _ hk => hk.2) (.int .i64 t150)) (fun _ h_ => h_.1)))); (case side4 => exact (Kd.S_reads' HO145.out).2.1); rintro e w' ⟨rfl, ⟨nd, rfl⟩⟩; refine ⟨_, rfl, ?_⟩; obtain ⟨Ao44, co44, eo44⟩ := Kd.R_slice HO142.out; subst eo44) | (go_at_call 12; (with_reducible refine (warplaw8_same.calls kj21 _ _ t136 _ _ t146 true _ ?side1 ?side2 ?side3 ?side4 A32.out).mono ?_); (case side1 => refine (Kd.R_reads' (e := 26) (base := w.heap.size) (ok := fun k_ => (True ∧ some k_ ≠ (.slice Ao42 t146.length co42 : Value).ownBlock)) (n := t136.length) (c := co44) ?_).2.2; exact (by (with_reducible repeat (first | apply Kd.R_alloc | apply Kd.R_drewN | apply Kd.R_drew)); exact (Kd.R_mono (Kd.R_far (p := ⟨gb151, 3, none⟩) (Kd.R_far (p := ⟨gb151, 2, none⟩) (Kd.R_far (p := ⟨gb151, 1, none⟩) (Kd.R_far (p := ⟨gb151, 0, none⟩) (Kd.R_types HO142.out BK151.out (by decide)) (fun _ hk => hk.2) (.slice Ao40 t143.length co40)) (fun _ hk => hk.2) (.slice Ao42 t146.length co42)) (fun _ hk => hk.2) (.int .i64 t149)) (fun _ hk => hk.2) (.int .i64 t150)) (fun _ h_ => h_.1)))); (case side2 => exact (Kd.R_reads' HO142.out).2.1); (case side3 => refine (Kd.R_reads' (e := 26) (base := w.heap.size) (ok := fun k_ => (True ∧ some k_ ≠ (.slice Ao44 t136.length co44 : Value).ownBlock)) (n := t146.length) (c := co42) ?_).2.2; exact (by (with_reducible repeat (first | apply Kd.R_alloc | apply Kd.R_drewN | apply Kd.R_drew)); exact (Kd.R_mono (Kd.R_far (p := ⟨gb151, 3, none⟩) (Kd.R_far (p := ⟨gb151, 2, none⟩) (Kd.R_far (p := ⟨gb151, 1, none⟩) (Kd.R_far (p := ⟨gb151, 0, none⟩) (Kd.R_types HO148.out BK151.out (by decide)) (fun _ hk => hk.2) (.slice Ao40 t143.length co40)) (fun _ hk => hk.2) (.slice Ao42 t146.length co42)) (fun _ hk => hk.2) (.int .i64 t149)) (fun _ hk => hk.2) (.int .i64 t150)) (fun _ h_ => h_.1)))); (case side4 => exact (Kd.R_reads' HO148.out).2.1); rintro e w' ⟨rfl, ⟨nd, rfl⟩⟩) | (go_at_call 8; (with_reducible refine (warplaw8_awake.calls kj21  t154 _ A36.out (Tab.below hT_ (by repeat (first | (with_reducible first | exact HB.out | apply below_alloc | apply pw_below_drewN | apply below_drew1 | refine below_set ?_ GE151.out) | exact HB.out)))).mono ?_); rintro e w45 ⟨rfl, hb⟩; have n0_ := Aside0.mk (Kd.S_below (by (with_reducible repeat (first | apply Kd.S_alloc | apply Kd.S_drewN | apply Kd.S_drew)); exact (Kd.S_mono (Kd.S_far (p := ⟨gb151, 3, none⟩) (Kd.S_far (p := ⟨gb151, 2, none⟩) (Kd.S_far (p := ⟨gb151, 1, none⟩) (Kd.S_far (p := ⟨gb151, 0, none⟩) (Kd.S_types HO140.out BK151.out (by decide)) (fun _ hk => hk.2) (.slice Ao40 t143.length co40)) (fun _ hk => hk.2) (.slice Ao42 t146.length co42)) (fun _ hk => hk.2) (.int .i64 t149)) (fun _ hk => hk.2) (.int .i64 t150)) (fun _ h_ => h_.1))) hb); have n1_ := Aside0.mk (Kd.R_below (by (with_reducible repeat (first | apply Kd.R_alloc | apply Kd.R_drewN | apply Kd.R_drew)); exact (Kd.R_mono (Kd.R_far (p := ⟨gb151, 3, none⟩) (Kd.R_far (p := ⟨gb151, 2, none⟩) (Kd.R_far (p := ⟨gb151, 1, none⟩) (Kd.R_far (p := ⟨gb151, 0, none⟩) (Kd.R_types HO142.out BK151.out (by decide)) (fun _ hk => hk.2) (.slice Ao40 t143.length co40)) (fun _ hk => hk.2) (.slice Ao42 t146.length co42)) (fun _ hk => hk.2) (.int .i64 t149)) (fun _ hk => hk.2) (.int .i64 t150)) (fun _ h_ => h_.1))) hb); have n2_ := Aside0.mk (Kd.S_below (by (with_reducible repeat (first | apply Kd.S_alloc | apply Kd.S_drewN | apply Kd.S_drew)); exact (Kd.S_mono (Kd.S_far (p := ⟨gb151, 3, none⟩) (Kd.S_far (p := ⟨gb151, 2, none⟩) (Kd.S_far (p := ⟨gb151, 1, none⟩) (Kd.S_far (p := ⟨gb151, 0, none⟩) (Kd.S_types HO145.out BK151.out (by decide)) (fun _ hk => hk.2) (.slice Ao40 t143.length co40)) (fun _ hk => hk.2) (.slice Ao42 t146.length co42)) (fun _ hk => hk.2) (.int .i64 t149)) (fun _ hk => hk.2) (.int .i64 t150)) (fun _ h_ => h_.1))) hb); have n3_ := Aside0.mk (Kd.R_below (by (with_reducible repeat (first | apply Kd.R_alloc | apply Kd.R_drewN | apply Kd.R_drew)); exact (Kd.R_mono (Kd.R_far (p := ⟨gb151, 3, none⟩) (Kd.R_far (p := ⟨gb151, 2, none⟩) (Kd.R_far (p := ⟨gb151, 1, none⟩) (Kd.R_far (p := ⟨gb151, 0, none⟩) (Kd.R_types HO148.out BK151.out (by decide)) (fun _ hk => hk.2) (.slice Ao40 t143.length co40)) (fun _ hk => hk.2) (.slice Ao42 t146.length co42)) (fun _ hk => hk.2) (.int .i64 t149)) (fun _ hk => hk.2) (.int .i64 t150)) (fun _ h_ => h_.1))) hb); have n4_ := Aside0.mk (blk_below (g := gb151) (o := .cells #[.slice Ao40 t143.length co40, .slice Ao42 t146.length co42, .int .i64 t149, .int .i64 t150] 32 (0, 0)) (by (with_reducible repeat (first | refine blk_drewN ?_ _ | refine blk_drew ?_ | refine blk_alloc ?_ _)); refine blk_put (cs := #[.slice Ao40 t143.length co40, .slice Ao42 t146.length co42, .int .i64 t149, .int .i64 0]) ?_ 3 _ rfl; (with_reducible repeat (first | refine blk_drewN ?_ _ | refine blk_drew ?_ | refine blk_alloc ?_ _)); refine blk_put (cs := #[.slice Ao40 t143.length co40, .slice Ao42 t146.length co42, .int .i64 0, .int .i64 0]) ?_ 2 _ rfl; (with_reducible repeat (first | refine blk_drewN ?_ _ | refine blk_drew ?_ | refine blk_alloc ?_ _)); refine blk_put (cs := #[.slice Ao40 t143.length co40, .slice none 0 0, .int .i64 0, .int .i64 0]) ?_ 1 _ rfl; (with_reducible repeat (first | refine blk_drewN ?_ _ | refine blk_drew ?_ | refine blk_alloc ?_ _)); refine blk_put (cs := #[.slice none 0 0, .slice none 0 0, .int .i64 0, .int .i64 0]) ?_ 0 _ rfl; (with_reducible repeat (first | refine blk_drewN ?_ _ | refine blk_drew ?_ | refine blk_alloc ?_ _)); exact BK151.out) hb); have n5_ := Aside0.mk (below_step (by repeat (first | (with_reducible first | exact HB.out | apply below_alloc | apply pw_below_drewN | apply below_drew1 | refine below_set ?_ GE151.out) | exact HB.out)) hb); clear HO140; clear HO142; clear HO145; clear HO148; clear BK151; clear HB; have HO140 := n0_; have HO142 := n1_; have HO145 := n2_; have HO148 := n3_; have BK151 := n4_; have HB := n5_; clear n0_ n1_ n2_ n3_ n4_ n5_; (try clear hb); (try clear hb2); (try clear hk); (try clear hi)))
             go_ret
             exact ⟨by first | rfl | (simp [errW_none, errW_some] <;> rfl) | (simp [*, errW_none, errW_some] <;> rfl), by repeat (first | (with_reducible first | exact HB.out | apply below_alloc | apply pw_below_drewN | apply below_drew1 | refine below_set ?_ GE151.out) | exact HB.out)⟩
            ·
             rw [if_neg c35] at H
             have c35b0 : (t138 == t150) = false := beq_eq_false_iff_ne.mpr c35
             have c35b1 : (t138 != t150) = true := bne_iff_ne.mpr c35
             exact absurd (hr_.symm.trans (Option.some.inj H).symm) (by decide)
           ·
            rw [if_neg c34] at H
            have c34b0 : (t137 == t149) = false := beq_eq_false_iff_ne.mpr c34
            have c34b1 : (t137 != t149) = true := bne_iff_ne.mpr c34
            exact absurd (hr_.symm.trans (Option.some.inj H).symm) (by decide)
          ·
           replace c33 := Bool.eq_false_iff.mpr c33
           subst c33
           have H1 : (some false) = some r := by rw [if_neg (show ¬ (false = true) by decide)] at H; exact H
           clear H
           have H := H1
           clear H1
           exact absurd (hr_.symm.trans (Option.some.inj H).symm) (by decide)
         ·
          replace c31 := Bool.eq_false_iff.mpr c31
          subst c31
          have H1 : (some false) = some r := by rw [if_neg (show ¬ (false = true) by decide)] at H; exact H
          clear H
          have H := H1
          clear H1
          exact absurd (hr_.symm.trans (Option.some.inj H).symm) (by decide)

/-- The one plain statement of warplaw8_TableAll. -/
def warplaw8_TableAll.Pure : Prop := ∀ (l0 : List (List (S26))) (a1 : Int) (a2 : Int) (l3 : List Int), ((fun l : List (List (S26)) => l.length ≤ maxLen ∧ ∀ x ∈ l, (fun l : List (S26) => l.length ≤ maxLen ∧ ∀ x ∈ l, (fun b : S26 => (fun x => (fun s : ByteArray => s.size ≤ maxLen) x.1 ∧ (fun x => (fun n : Int => (Lit.int .i64 n).wf = true) x.1 ∧ (fun n : Int => (Lit.int .i64 n).wf = true) x.2) x.2) ((b.f0, b.f1, b.f2))) x) x) l0) → ((fun n : Int => (Lit.int .i64 n).wf = true) a1) → ((fun n : Int => (Lit.int .i64 n).wf = true) a2) → ((fun l : List Int => l.length ≤ maxLen ∧ ∀ x ∈ l, (fun n : Int => (Lit.int .i64 n).wf = true) x) l3) → ∃ k, warplaw8_TableAll.f k l0 a1 a2 l3 = some true

end Go.Proofs.YtmgfkdnoclmbgaaDoor.P
